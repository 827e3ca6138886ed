/- Basic access: the session of two halves and two random numbers, both sides. -/
import Derived.Test.YtjbmmdcnccclaaaDoorBas6
import Derived.Test.YtjbmmdcnccclaaaDoorQCheckM
import Derived.Test.YtjbmmdcnccclaaaDoorQSame
import Derived.Test.YtjbmmdcnccclaaaDoorSeedB
import Derived.KernelRfl
namespace Go.Proofs.YtjbmmdcnccclaaaDoor
open Go.RowKit Go.Deep

/-- The number that a session begins with. -/
def numS (chip term : List UInt8) : Int := numV (chip.drop 6 ++ term.drop 6)
theorem tail4 {chip term : List UInt8} (lc : chip.length = 8) (lt : term.length = 8) : chip.drop 6 ++ term.drop 6 = [gb chip 6, gb chip 7, gb term 6, gb term 7] := by
  have two : ∀ l : List UInt8, l.length = 8 → l.drop 6 = [gb l 6, gb l 7] := by
    intro l hl
    match l, hl with
    | [_, _, _, _, _, _, _, _], _ => rfl
  rw [two _ lc, two _ lt]; rfl
theorem numS_in {chip term : List UInt8} (lc : chip.length = 8) (lt : term.length = 8) : 0 ≤ numS chip term ∧ numS chip term ≤ 1099511627776 := by
  have hl : (chip.drop 6 ++ term.drop 6).length = 4 := by rw [List.length_append, List.length_drop, List.length_drop]; omega
  have h := numV_in (chip.drop 6 ++ term.drop 6) 4 (by omega)
  rw [List.take_of_length_le (by omega)] at h
  have e : (256 : Int) ^ 4 = 4294967296 := by decide
  rw [e] at h
  unfold numS
  omega
set_option maxRecDepth 100000 in
set_option maxHeartbeats 4000000 in
theorem session_any (va vb vc vt : Value) (a b chip term : List UInt8) (w : World) (hK : KD w) (ha : Bs w w.heap.size va a) (hb : Bs w w.heap.size vb b) (hc : Bs w w.heap.size vc chip) (ht : Bs w w.heap.size vt term) (la : a.length = 16) (lb : b.length = 16) (lc : chip.length = 8) (lt : term.length = 8) :
    Calls Tryd.prog 34 #[va, vb, vc, vt] w fun e w' => ∃ v, e = .returned v ∧ SessV w' (New w w') v (keyW (xorL a b) 1) (keyW (xorL a b) 2) (numS chip term) ∧ Below w.heap.size w w' := by
  obtain ⟨w0, hw0⟩ : ∃ w0, w0 = w.alloc (.cells #[.slice none 0 0, .slice none 0 0, .int .i64 0] 40) := ⟨_, rfl⟩
  have hB0 : Below w.heap.size w w0 := by rw [hw0]; exact (Below.refl _ _).alloc (Nat.le_refl _) _
  have hh0 : w0.heap[w.heap.size]? = some (.cells #[.slice none 0 0, .slice none 0 0, .int .i64 0] 40 (0, 0)) := by rw [hw0]; exact heap_alloc_new _ _
  have HX := Lib.hid (xor16_any _ _ a b la lb w0 (ha.lift hB0) (hb.lift hB0))
  have HCH := Lib.hid hc; have HTE := Lib.hid ht; have HK0 := Lib.hid (hK.below hB0 hK.lt)
  obtain ⟨aa, an, ac, rfl⟩ := ha.form
  obtain ⟨ba, bn, bc, rfl⟩ := hb.form
  obtain ⟨_, cc, rfl, hcc, hcc', _, hcellc⟩ := hc
  obtain ⟨cb, co, rfl, hcb, hcellc⟩ := hcellc (by omega)
  obtain ⟨_, tc, rfl, htc, htc', _, hcellt⟩ := ht
  obtain ⟨tb, tof, rfl, htb, hcellt⟩ := hcellt (by omega)
  rw [lc] at hcc hcellc HCH ⊢
  rw [lt] at htc hcellt HTE ⊢
  have HW0 := Lib.hid hw0; have HB0 := Lib.hid hB0; have HH0 := Lib.hid hh0
  have HCC : Hid (6 < cc ∧ 6 < tc) := Lib.hid (by omega)
  have HCL : Hid (catL [(.slice (some ⟨cb, co + 6, none⟩) 2 (cc - 6), chip.drop 6), (.slice (some ⟨tb, tof + 6, none⟩) 2 (tc - 6), term.drop 6)] = chip.drop 6 ++ term.drop 6) := Lib.hid (by simp [catL])
  have HLN : Hid ((chip.drop 6 ++ term.drop 6).length = 4) := Lib.hid (by rw [List.length_append, List.length_drop, List.length_drop]; omega)
  have HNR := Lib.hid (numS_in lc lt)
  have H4 : Hid (chip.drop 6 ++ term.drop 6 = [gb chip 6, gb chip 7, gb term 6, gb term 7]) := Lib.hid (tail4 lc lt)
  have HC6 := Lib.hid (hcellc 6 (by omega)); have HC7 := Lib.hid (hcellc 7 (by omega)); have HT6 := Lib.hid (hcellt 6 (by omega)); have HT7 := Lib.hid (hcellt 7 (by omega))
  have HCT : Hid (Bs w w.heap.size (.slice (some ⟨cb, co + 6, none⟩) 2 (cc - 6)) (chip.drop 6) ∧ Bs w w.heap.size (.slice (some ⟨tb, tof + 6, none⟩) 2 (tc - 6)) (term.drop 6)) := Lib.hid (by
    have h1 := BsS.mid (k := 6) (n := 2) (d := cc - 6) HCH.out (by omega) (by omega) (by omega)
    have h2 := BsS.mid (k := 6) (n := 2) (d := tc - 6) HTE.out (by omega) (by omega) (by omega)
    rw [List.take_of_length_le (by rw [List.length_drop]; omega)] at h1 h2
    exact ⟨h1, h2⟩)
  clear hK ha hb la lb lc lt hw0 hB0 hh0 hcellc hcellt hcc htc
  go_enter Tryd.func34, Tryd.ntmps34
  go_upto_region 1 with fail
  rw [← HW0.out]
  clear HW0
  go_upto_region 3 with (first
    | (go_at_call 39; refine (keys_any _ (xorL a b) w1 (HK0.out.below HB1.out HK0.out.lt) (BsS.keep HX1.out fun g hs _ => ⟨rfl, hs.2⟩) (by rw [xorL_len]; omega)).mono ?_; rintro e w2 ⟨a1, d1, b1, d2, rfl, hk1, hk2, hb⟩; have HK1 : Hid (Bs w2 w2.heap.size (.slice a1 16 d1) (keyW (xorL a b) 1)) := Lib.hid (BsS.keep hk1 fun g hs _ => ⟨rfl, hs.2⟩); have HK2 : Hid (Bs w2 w2.heap.size (.slice b1 16 d2) (keyW (xorL a b) 2)) := Lib.hid (BsS.keep hk2 fun g hs _ => ⟨rfl, hs.2⟩); have HB2 : Hid (Below w0.heap.size w0 w2) := Lib.hid (HB1.out.trans (hb.mono HB1.out.size)); clear hk1 hk2 hb)
    | (go_at_call 55; refine HX.out.mono ?_; rintro e w1 ⟨v1, rfl, hs, hb⟩; obtain ⟨A1, c1, hv1⟩ : ∃ A c, v1 = .slice A 16 c := (by obtain ⟨a', c, e, _⟩ := hs; rw [xorL_len] at e; exact ⟨a', c, e⟩); subst hv1; have HX1 := Lib.hid hs; have HB1 := Lib.hid hb; clear hs hb))
  have HBW2 : Hid (Below w.heap.size w w2) := Lib.hid (HB0.out.trans (HB2.out.mono HB0.out.size))
  have HNQ : Hid (numQ2 (chip.drop 6 ++ term.drop 6) = (numS chip term, 0)) := Lib.hid (by unfold numQ2; rw [if_neg (by rw [HLN.out]; omega)]; rfl)
  have HB3 : Hid (∀ W, Below w2.heap.size w2 W → ∀ p ∈ [(Value.slice (some ⟨cb, co + 6, none⟩) 2 (cc - 6), chip.drop 6), (.slice (some ⟨tb, tof + 6, none⟩) 2 (tc - 6), term.drop 6)], BsS W (· < w2.heap.size) p.1 p.2) := Lib.hid (fun W hW p hp => by
    have k : ∀ {v : Value} {l : List UInt8}, Bs w w.heap.size v l → BsS W (· < w2.heap.size) v l := fun hx => BsS.keep hx fun g hg hl => ⟨(hW.block g (Nat.lt_of_lt_of_le hg HBW2.out.size)).trans (HBW2.out.block g hg), Nat.lt_of_lt_of_le hg HBW2.out.size⟩
    simp only [List.mem_cons, List.not_mem_nil, or_false] at hp
    rcases hp with rfl | rfl
    · exact k HCT.out.1
    · exact k HCT.out.2)
  refine wp_region_rg 12 [some 29, some 30, some 31, some 32, some 33, some 34, some 35, some 28, some 36, some 37, some 13, some 14] [[], [0], [], [2], [0, 1, 2, 3], [0, 1, 2, 3, 4], [0, 1, 2, 3, 4, 5], [0, 1, 2, 3, 4, 5, 6], [0, 1, 2, 3, 4, 5, 6, 7], [0, 1, 2, 3, 4, 5, 6, 7], [0, 1, 2, 3, 4, 5, 6, 7, 8], [0, 1, 2, 3, 4, 5, 6, 7, 8, 9, 10]]
    (fun _ _ w1 => Below w2.heap.size w2 w1) (fun w1 w2 => Below w1.heap.size w1 w2)
    [fun v _ => v 0 = .slice (some ⟨cb, co, none⟩) 8 cc,
     fun v _ => v 1 = .slice (some ⟨cb, co + 6, none⟩) 2 (cc - 6),
     fun v _ => v 2 = .slice (some ⟨tb, tof, none⟩) 8 tc,
     fun v _ => v 3 = .slice (some ⟨tb, tof + 6, none⟩) 2 (tc - 6),
     fun v w1 => ∃ q, v 4 = .slice (some ⟨q, 0, none⟩) 2 2 ∧ w1.heap[q]? = some (.cells #[.slice (some ⟨cb, co + 6, none⟩) 2 (cc - 6), .slice (some ⟨tb, tof + 6, none⟩) 2 (tc - 6)] 23 (0, 0)),
     fun v w1 => ∃ A c, v 5 = .slice A 4 c ∧ BsS w1 (New w2 w1) (.slice A 4 c) (chip.drop 6 ++ term.drop 6),
     fun v _ => v 6 = .tuple #[.int .i64 (numS chip term), .int .i64 0],
     fun v _ => v 7 = .tuple #[.int .i64 (numS chip term), .int .i64 0],
     fun v _ => v 8 = .int .i64 (numS chip term),
     fun v _ => v 9 = .int .i64 0,
     fun v _ => v 10 = .int .i64 (numS chip term),
     fun v _ => v 11 = .int .i64 0]
    (by kernel_rfl) (by kernel_rfl) (fun _ => (Below.refl _ _).drew) ?st ?steps ?tail
  case st =>
    exact (.cons (fun _ _ _ _ _ _ h => h) (.cons (fun _ _ _ _ _ _ h => h) (.cons (fun _ _ _ _ _ _ h => h) (.cons (fun _ _ _ _ _ _ h => h) (.cons (fun _ _ _ _ _ hr ⟨q, e, h⟩ => ⟨q, e, (hr.block q (Array.getElem?_eq_some_iff.1 h).1).trans h⟩) (.cons (fun _ _ _ _ _ hr ⟨A, c, e, h⟩ => ⟨A, c, e, BsS.keep h fun g hs hl => ⟨hr.block g hl, hs.1, Nat.lt_of_lt_of_le hs.2 hr.size⟩⟩) (.cons (fun _ _ _ _ _ _ h => h) (.cons (fun _ _ _ _ _ _ h => h) (.cons (fun _ _ _ _ _ _ h => h) (.cons (fun _ _ _ _ _ _ h => h) (.cons (fun _ _ _ _ _ _ h => h) (.cons (fun _ _ _ _ _ _ h => h) .nil))))))))))))
  case steps =>
    simp only [List.take_succ_cons, List.take_zero]
    refine (.cons ?_ (.cons ?_ (.cons ?_ (.cons ?_ (.cons ?_ (.cons ?_ (.cons ?_ (.cons ?_ (.cons ?_ (.cons ?_ (.cons ?_ (.cons ?_ .nil))))))))))))
    all_goals (intro L v w1 hJ hL hA hF K hK; simp only [fillRG, Act.put, Nat.zero_add, Nat.reduceAdd, List.setIfInBounds_toArray, List.set_cons_zero, List.set_cons_succ] at hK ⊢)
    · go_simp
      refine hK _ _ hJ (Below.refl _ _) ?_
      first | exact rfl | exact val_mod _
    · have e0 : v 0 = .slice (some ⟨cb, co, none⟩) 8 cc := hF 0 (hA 0 (by simp))
      have h6 : 6 < cc := HCC.out.1
      have h6e : ¬ cc = 6 := (by omega)
      simp only [e0] at hK
      go_simp
      refine hK _ _ hJ (Below.refl _ _) ?_
      first | exact rfl | exact val_mod _
    · go_simp
      refine hK _ _ hJ (Below.refl _ _) ?_
      first | exact rfl | exact val_mod _
    · have e2 : v 2 = .slice (some ⟨tb, tof, none⟩) 8 tc := hF 2 (hA 2 (by simp))
      have h6 : 6 < tc := HCC.out.2
      have h6e : ¬ tc = 6 := (by omega)
      simp only [e2] at hK
      go_simp
      refine hK _ _ hJ (Below.refl _ _) ?_
      first | exact rfl | exact val_mod _
    · have e1 : v 1 = .slice (some ⟨cb, co + 6, none⟩) 2 (cc - 6) := hF 1 (hA 1 (by simp))
      have e3 : v 3 = .slice (some ⟨tb, tof + 6, none⟩) 2 (tc - 6) := hF 3 (hA 3 (by simp))
      simp only [e1, e3] at hK
      go_simp
      exact hK _ _ (hJ.alloc hJ.size _) ((Below.refl _ _).alloc (Nat.le_refl _) _) ⟨_, rfl, heap_alloc_new _ _⟩
    · obtain ⟨q, e4, hq⟩ : ∃ q, v 4 = .slice (some ⟨q, 0, none⟩) 2 2 ∧ w1.heap[q]? = some (.cells #[.slice (some ⟨cb, co + 6, none⟩) 2 (cc - 6), .slice (some ⟨tb, tof + 6, none⟩) 2 (tc - 6)] 23 (0, 0)) := hF 4 (hA 4 (by simp))
      simp only [e4] at hK
      go_simp
      refine (concat_any [(.slice (some ⟨cb, co + 6, none⟩) 2 (cc - 6), chip.drop 6), (.slice (some ⟨tb, tof + 6, none⟩) 2 (tc - 6), term.drop 6)] q (· < w2.heap.size) w1 23 hq (HB3.out w1 hJ) (by rw [HCL.out, HLN.out]; omega) (by simp)).mono ?_
      rintro e w5 ⟨v5, rfl, ho, hb⟩
      rw [HCL.out] at ho
      obtain ⟨A5, c5, e5⟩ := ho.form
      rw [HLN.out] at e5
      subst e5
      exact hK _ _ (hJ.trans (hb.mono hJ.size)) hb ⟨_, _, rfl, (ho.out (by rw [HLN.out]; omega) w1 (Nat.le_refl _)).keep fun g hs _ => ⟨rfl, Nat.le_trans hJ.size hs.1, hs.2⟩⟩
    · obtain ⟨A, c, e5, hh⟩ : ∃ A c, v 5 = .slice A 4 c ∧ BsS w1 (New w2 w1) (.slice A 4 c) (chip.drop 6 ++ term.drop 6) := hF 5 (hA 5 (by simp))
      simp only [e5] at hK
      go_simp
      refine (bnumber_any (chip.drop 6 ++ term.drop 6) _ _ w1 hh).mono ?_
      rintro e w5 ⟨rfl, hw5⟩
      rw [hw5, HNQ.out]
      exact hK _ _ hJ (Below.refl _ _) rfl
    · have e6 : v 6 = .tuple #[.int .i64 (numS chip term), .int .i64 0] := hF 6 (hA 6 (by simp))
      simp only [e6] at hK
      go_simp
      refine hK _ _ hJ (Below.refl _ _) ?_
      first | exact rfl | exact val_mod _
    · have e7 : v 7 = .tuple #[.int .i64 (numS chip term), .int .i64 0] := hF 7 (hA 7 (by simp))
      simp only [e7] at hK
      go_simp
      refine hK _ _ hJ (Below.refl _ _) ?_
      first | exact rfl | exact val_mod _
    · have e7 : v 7 = .tuple #[.int .i64 (numS chip term), .int .i64 0] := hF 7 (hA 7 (by simp))
      simp only [e7] at hK
      go_simp
      refine hK _ _ hJ (Below.refl _ _) ?_
      first | exact rfl | exact val_mod _
    · have e8 : v 8 = .int .i64 (numS chip term) := hF 8 (hA 8 (by simp))
      simp only [e8] at hK
      go_simp
      refine hK _ _ hJ (Below.refl _ _) ?_
      first | exact rfl | exact val_mod _
    · have e9 : v 9 = .int .i64 0 := hF 9 (hA 9 (by simp))
      simp only [e9] at hK
      go_simp
      refine hK _ _ hJ (Below.refl _ _) ?_
      first | exact rfl | exact val_mod _
  case tail =>
    intro v w1 hJ hF
    have e0 : v 0 = .slice (some ⟨cb, co, none⟩) 8 cc := hF 0 (by simp)
    have e1 : v 1 = .slice (some ⟨cb, co + 6, none⟩) 2 (cc - 6) := hF 1 (by simp)
    have e2 : v 2 = .slice (some ⟨tb, tof, none⟩) 8 tc := hF 2 (by simp)
    have e3 : v 3 = .slice (some ⟨tb, tof + 6, none⟩) 2 (tc - 6) := hF 3 (by simp)
    have e6 : v 6 = .tuple #[.int .i64 (numS chip term), .int .i64 0] := hF 6 (by simp)
    have e7 : v 7 = .tuple #[.int .i64 (numS chip term), .int .i64 0] := hF 7 (by simp)
    have e8 : v 8 = .int .i64 (numS chip term) := hF 8 (by simp)
    have e9 : v 9 = .int .i64 0 := hF 9 (by simp)
    have e10 : v 10 = .int .i64 (numS chip term) := hF 10 (by simp)
    have e11 : v 11 = .int .i64 0 := hF 11 (by simp)
    simp only [List.drop_succ_cons, List.drop_zero, fillRG, Act.put, Nat.zero_add, Nat.reduceAdd, List.setIfInBounds_toArray, List.set_cons_zero, List.set_cons_succ]
    have HJ := Lib.hid hJ
    have HE := Lib.hid (bs_later HK1.out (fun _ h => h) hJ); have HC := Lib.hid (bs_later HK2.out (fun _ h => h) hJ)
    simp only [e10]
    clear hJ hF
    go_upto_region 5 with (go_at_call 57; refine (start_good _ _ (keyW (xorL a b) 1) (keyW (xorL a b) 2) (numS chip term) w1 HE.out HC.out (keyW_len _ _) (keyW_len _ _) HNR.out.1 HNR.out.2).mono ?_; rintro e w5 ⟨v5, rfl, ⟨A1, c1, A2, c2, rfl, hs1, hs2⟩, hb⟩; have HS1 := Lib.hid hs1; have HS2 := Lib.hid hs2; have HB5 := Lib.hid hb; clear hs1 hs2 hb)
    obtain ⟨w6, hw6⟩ : ∃ w6, w6 = w5.alloc (.cells #[.slice A1 16 c1, .slice A2 16 c2, .int .i64 (numS chip term)] 40) := ⟨_, rfl⟩
    rw [← hw6]
    have hh6 : w6.heap[w5.heap.size]? = some (.cells #[.slice A1 16 c1, .slice A2 16 c2, .int .i64 (numS chip term)] 40 (0, 0)) := by rw [hw6]; exact heap_alloc_new _ _
    have HB6 : Hid (Below w5.heap.size w5 w6) := Lib.hid (by rw [hw6]; exact (Below.refl _ _).alloc (Nat.le_refl _) _)
    obtain ⟨p0, p1, p2, _⟩ := sess3 hh6
    have s0 := HB0.out.size; have s2 := HB2.out.size; have s3 := HJ.out.size; have s5 := HB5.out.size; have s6 := HB6.out.size
    have hlt0 := (Array.getElem?_eq_some_iff.1 HH0.out).1
    have hz6 := (HB6.out.block w.heap.size (by omega)).trans ((HB5.out.block w.heap.size (by omega)).trans ((HJ.out.block w.heap.size (by omega)).trans ((HB2.out.block w.heap.size hlt0).trans HH0.out)))
    have HZ6 := Lib.hid hz6
    obtain ⟨z0, z1, z2, zf⟩ := sess3 hz6
    have zf0 := zf 0; have zf1 := zf 1; have zf2 := zf 2
    obtain ⟨y0, y1, y2, _⟩ := sess3 (set3_row (.slice A1 16 c1) (.slice A2 16 c2) (.int .i64 (numS chip term)) HZ6.out)
    clear zf hz6 hw6 hh6
    go_wp2_with fail
    refine bodyPost_ret (v := .agg #[.slice A1 16 c1, .slice A2 16 c2, .int .i64 (numS chip term)]) (by simp only [set3] at y0 y1 y2; simp [results, Tryd.results34, go_sem, y0, y1, y2]) rfl ?_
    have hb06 : Below w.heap.size w w6 := HB0.out.trans ((HB2.out.trans ((HJ.out.trans ((HB5.out.trans (HB6.out.mono s5)).mono s3)).mono s2)).mono s0)
    have hsz : (set3 w6 w.heap.size (.slice A1 16 c1) (.slice A2 16 c2) (.int .i64 (numS chip term))).heap.size = w6.heap.size := by simp [set3]
    have hk : ∀ {v : Value} {l : List UInt8}, BsS w5 (New w1 w5) v l → BsS (set3 w6 w.heap.size (.slice A1 16 c1) (.slice A2 16 c2) (.int .i64 (numS chip term))) (New w (set3 w6 w.heap.size (.slice A1 16 c1) (.slice A2 16 c2) (.int .i64 (numS chip term)))) v l := fun h => BsS.keep h fun g hg hl => by
      have h1 := hg.1
      have h2 := hg.2
      refine ⟨(set3_other (by omega)).trans (HB6.out.block g hg.2), by omega, ?_⟩
      show g < (set3 w6 w.heap.size (.slice A1 16 c1) (.slice A2 16 c2) (.int .i64 (numS chip term))).heap.size
      rw [hsz]; omega
    exact ⟨_, rfl, ⟨A1, c1, A2, c2, rfl, hk HS1.out, hk HS2.out⟩, set3_below hb06 (Nat.le_refl _)⟩
set_option maxRecDepth 100000 in
set_option maxHeartbeats 4000000 in
theorem rsession_any (va vb vc vt : Value) (a b chip term : List UInt8) (w : World) (hK : KR w) (ha : Bs w w.heap.size va a) (hb : Bs w w.heap.size vb b) (hc : Bs w w.heap.size vc chip) (ht : Bs w w.heap.size vt term) (la : a.length = 16) (lb : b.length = 16) (lc : chip.length = 8) (lt : term.length = 8) :
    Calls Tryd.prog 36 #[vc, vt, va, vb] w fun e w' => ∃ v, e = .returned v ∧ SessV w' (New w w') v (keyW (xorL a b) 1) (keyW (xorL a b) 2) (numS chip term) ∧ Below w.heap.size w w' := by
  obtain ⟨w0, hw0⟩ : ∃ w0, w0 = w.alloc (.cells #[.slice none 0 0, .slice none 0 0, .int .i64 0] 40) := ⟨_, rfl⟩
  have hB0 : Below w.heap.size w w0 := by rw [hw0]; exact (Below.refl _ _).alloc (Nat.le_refl _) _
  have hh0 : w0.heap[w.heap.size]? = some (.cells #[.slice none 0 0, .slice none 0 0, .int .i64 0] 40 (0, 0)) := by rw [hw0]; exact heap_alloc_new _ _
  have HX := Lib.hid (rxor16_any _ _ a b la lb w0 (ha.lift hB0) (hb.lift hB0))
  have HCH := Lib.hid hc; have HTE := Lib.hid ht; have HK0 := Lib.hid (hK.below hB0 hK.lt)
  obtain ⟨aa, an, ac, rfl⟩ := ha.form
  obtain ⟨ba, bn, bc, rfl⟩ := hb.form
  obtain ⟨_, cc, rfl, hcc, hcc', _, hcellc⟩ := hc
  obtain ⟨cb, co, rfl, hcb, hcellc⟩ := hcellc (by omega)
  obtain ⟨_, tc, rfl, htc, htc', _, hcellt⟩ := ht
  obtain ⟨tb, tof, rfl, htb, hcellt⟩ := hcellt (by omega)
  rw [lc] at hcc hcellc HCH ⊢
  rw [lt] at htc hcellt HTE ⊢
  have HW0 := Lib.hid hw0; have HB0 := Lib.hid hB0; have HH0 := Lib.hid hh0
  have HCC : Hid (6 < cc ∧ 6 < tc) := Lib.hid (by omega)
  have HCL : Hid (catL [(.slice (some ⟨cb, co + 6, none⟩) 2 (cc - 6), chip.drop 6), (.slice (some ⟨tb, tof + 6, none⟩) 2 (tc - 6), term.drop 6)] = chip.drop 6 ++ term.drop 6) := Lib.hid (by simp [catL])
  have HLN : Hid ((chip.drop 6 ++ term.drop 6).length = 4) := Lib.hid (by rw [List.length_append, List.length_drop, List.length_drop]; omega)
  have HNR := Lib.hid (numS_in lc lt)
  have H4 : Hid (chip.drop 6 ++ term.drop 6 = [gb chip 6, gb chip 7, gb term 6, gb term 7]) := Lib.hid (tail4 lc lt)
  have HC6 := Lib.hid (hcellc 6 (by omega)); have HC7 := Lib.hid (hcellc 7 (by omega)); have HT6 := Lib.hid (hcellt 6 (by omega)); have HT7 := Lib.hid (hcellt 7 (by omega))
  have HCT : Hid (Bs w w.heap.size (.slice (some ⟨cb, co + 6, none⟩) 2 (cc - 6)) (chip.drop 6) ∧ Bs w w.heap.size (.slice (some ⟨tb, tof + 6, none⟩) 2 (tc - 6)) (term.drop 6)) := Lib.hid (by
    have h1 := BsS.mid (k := 6) (n := 2) (d := cc - 6) HCH.out (by omega) (by omega) (by omega)
    have h2 := BsS.mid (k := 6) (n := 2) (d := tc - 6) HTE.out (by omega) (by omega) (by omega)
    rw [List.take_of_length_le (by rw [List.length_drop]; omega)] at h1 h2
    exact ⟨h1, h2⟩)
  clear hK ha hb la lb lc lt hw0 hB0 hh0 hcellc hcellt hcc htc
  go_enter Tryd.func36, Tryd.ntmps36
  go_upto_region 1 with fail
  rw [← HW0.out]
  clear HW0
  go_upto_region 3 with (first
    | (go_at_call 43; refine (rkeys_any _ (xorL a b) w1 (HK0.out.below HB1.out HK0.out.lt) (BsS.keep HX1.out fun g hs _ => ⟨rfl, hs.2⟩) (by rw [xorL_len]; omega)).mono ?_; rintro e w2 ⟨a1, d1, b1, d2, rfl, hk1, hk2, hb⟩; have HK1 : Hid (Bs w2 w2.heap.size (.slice a1 16 d1) (keyW (xorL a b) 1)) := Lib.hid (BsS.keep hk1 fun g hs _ => ⟨rfl, hs.2⟩); have HK2 : Hid (Bs w2 w2.heap.size (.slice b1 16 d2) (keyW (xorL a b) 2)) := Lib.hid (BsS.keep hk2 fun g hs _ => ⟨rfl, hs.2⟩); have HB2 : Hid (Below w0.heap.size w0 w2) := Lib.hid (HB1.out.trans (hb.mono HB1.out.size)); clear hk1 hk2 hb)
    | (go_at_call 59; refine HX.out.mono ?_; rintro e w1 ⟨v1, rfl, hs, hb⟩; obtain ⟨A1, c1, hv1⟩ : ∃ A c, v1 = .slice A 16 c := (by obtain ⟨a', c, e, _⟩ := hs; rw [xorL_len] at e; exact ⟨a', c, e⟩); subst hv1; have HX1 := Lib.hid hs; have HB1 := Lib.hid hb; clear hs hb))
  have HBW2 : Hid (Below w.heap.size w w2) := Lib.hid (HB0.out.trans (HB2.out.mono HB0.out.size))
  have HNQ : Hid (numQ2 [gb chip 6, gb chip 7, gb term 6, gb term 7] = (numS chip term, 0)) := Lib.hid (by unfold numQ2; rw [if_neg (by simp)]; unfold numS; rw [H4.out])
  have cl : ∀ (W : World) (g j : Nat) (u : Value), Below w2.heap.size w2 W → g < w.heap.size → w.cell? ⟨g, j, none⟩ = some u → W.cell? ⟨g, j, none⟩ = some u := fun W g j u h hg hc => ((HBW2.out.trans (h.mono HBW2.out.size)).cell (p := ⟨g, j, none⟩) hg).trans hc
  have Cc6 := Lib.hid (fun W h => cl W _ _ _ h hcb HC6.out); have Cc7 := Lib.hid (fun W h => cl W _ _ _ h hcb HC7.out); have Ct6 := Lib.hid (fun W h => cl W _ _ _ h htb HT6.out); have Ct7 := Lib.hid (fun W h => cl W _ _ _ h htb HT7.out)
  clear cl
  refine wp_region_rg 19 [some 29, some 30, some 31, some 32, some 33, some 34, some 35, some 36, some 37, some 38, some 39, some 40, some 41, some 42, some 28, some 43, some 44, some 13, some 14] [[], [0], [0, 1], [], [3], [3, 4], [], [6], [6, 7], [], [9], [9, 10], [0, 1, 2, 3, 4, 5, 6, 7, 8, 9, 10, 11], [0, 1, 2, 3, 4, 5, 6, 7, 8, 9, 10, 11, 12], [0, 1, 2, 3, 4, 5, 6, 7, 8, 9, 10, 11, 12, 13], [0, 1, 2, 3, 4, 5, 6, 7, 8, 9, 10, 11, 12, 13, 14], [0, 1, 2, 3, 4, 5, 6, 7, 8, 9, 10, 11, 12, 13, 14], [0, 1, 2, 3, 4, 5, 6, 7, 8, 9, 10, 11, 12, 13, 14, 15], [0, 1, 2, 3, 4, 5, 6, 7, 8, 9, 10, 11, 12, 13, 14, 15, 16, 17]]
    (fun _ _ w1 => Below w2.heap.size w2 w1) (fun w1 w2 => Below w1.heap.size w1 w2)
    [fun v _ => v 0 = .slice (some ⟨cb, co, none⟩) 8 cc,
     fun v _ => v 1 = .pointer (some ⟨cb, co + 6, none⟩),
     fun v _ => v 2 = U8 (gb chip 6),
     fun v _ => v 3 = .slice (some ⟨cb, co, none⟩) 8 cc,
     fun v _ => v 4 = .pointer (some ⟨cb, co + 7, none⟩),
     fun v _ => v 5 = U8 (gb chip 7),
     fun v _ => v 6 = .slice (some ⟨tb, tof, none⟩) 8 tc,
     fun v _ => v 7 = .pointer (some ⟨tb, tof + 6, none⟩),
     fun v _ => v 8 = U8 (gb term 6),
     fun v _ => v 9 = .slice (some ⟨tb, tof, none⟩) 8 tc,
     fun v _ => v 10 = .pointer (some ⟨tb, tof + 7, none⟩),
     fun v _ => v 11 = U8 (gb term 7),
     fun v w1 => ∃ q, v 12 = .slice (some ⟨q, 0, none⟩) 4 4 ∧ w1.heap[q]? = some (.cells (([gb chip 6, gb chip 7, gb term 6, gb term 7] : List UInt8).map U8).toArray 5 (0, 0)),
     fun v _ => v 13 = .tuple #[.int .i64 (numS chip term), .int .i64 0],
     fun v _ => v 14 = .tuple #[.int .i64 (numS chip term), .int .i64 0],
     fun v _ => v 15 = .int .i64 (numS chip term),
     fun v _ => v 16 = .int .i64 0,
     fun v _ => v 17 = .int .i64 (numS chip term),
     fun v _ => v 18 = .int .i64 0]
    (by kernel_rfl) (by kernel_rfl) (fun _ => (Below.refl _ _).drew) ?st ?steps ?tail
  case st =>
    exact (.cons (fun _ _ _ _ _ _ h => h) (.cons (fun _ _ _ _ _ _ h => h) (.cons (fun _ _ _ _ _ _ h => h) (.cons (fun _ _ _ _ _ _ h => h) (.cons (fun _ _ _ _ _ _ h => h) (.cons (fun _ _ _ _ _ _ h => h) (.cons (fun _ _ _ _ _ _ h => h) (.cons (fun _ _ _ _ _ _ h => h) (.cons (fun _ _ _ _ _ _ h => h) (.cons (fun _ _ _ _ _ _ h => h) (.cons (fun _ _ _ _ _ _ h => h) (.cons (fun _ _ _ _ _ _ h => h) (.cons (fun _ _ _ _ _ hr ⟨q, e, h⟩ => ⟨q, e, (hr.block q (Array.getElem?_eq_some_iff.1 h).1).trans h⟩) (.cons (fun _ _ _ _ _ _ h => h) (.cons (fun _ _ _ _ _ _ h => h) (.cons (fun _ _ _ _ _ _ h => h) (.cons (fun _ _ _ _ _ _ h => h) (.cons (fun _ _ _ _ _ _ h => h) (.cons (fun _ _ _ _ _ _ h => h) .nil)))))))))))))))))))
  case steps =>
    simp only [List.take_succ_cons, List.take_zero]
    refine (.cons ?_ (.cons ?_ (.cons ?_ (.cons ?_ (.cons ?_ (.cons ?_ (.cons ?_ (.cons ?_ (.cons ?_ (.cons ?_ (.cons ?_ (.cons ?_ (.cons ?_ (.cons ?_ (.cons ?_ (.cons ?_ (.cons ?_ (.cons ?_ (.cons ?_ .nil)))))))))))))))))))
    all_goals (intro L v w1 hJ hL hA hF K hK; simp only [fillRG, Act.put, Nat.zero_add, Nat.reduceAdd, List.setIfInBounds_toArray, List.set_cons_zero, List.set_cons_succ] at hK ⊢)
    · go_simp
      refine hK _ _ hJ (Below.refl _ _) ?_
      first | exact rfl | exact val_mod _
    · have e0 : v 0 = .slice (some ⟨cb, co, none⟩) 8 cc := hF 0 (hA 0 (by simp))
      simp only [e0] at hK
      go_simp
      refine hK _ _ hJ (Below.refl _ _) ?_
      first | exact rfl | exact val_mod _
    · have e1 : v 1 = .pointer (some ⟨cb, co + 6, none⟩) := hF 1 (hA 1 (by simp))
      have c0 := Cc6.out _ hJ
      simp only [e1] at hK
      go_simp
      refine hK _ _ hJ (Below.refl _ _) ?_
      first | exact rfl | exact val_mod _
    · go_simp
      refine hK _ _ hJ (Below.refl _ _) ?_
      first | exact rfl | exact val_mod _
    · have e3 : v 3 = .slice (some ⟨cb, co, none⟩) 8 cc := hF 3 (hA 3 (by simp))
      simp only [e3] at hK
      go_simp
      refine hK _ _ hJ (Below.refl _ _) ?_
      first | exact rfl | exact val_mod _
    · have e4 : v 4 = .pointer (some ⟨cb, co + 7, none⟩) := hF 4 (hA 4 (by simp))
      have c0 := Cc7.out _ hJ
      simp only [e4] at hK
      go_simp
      refine hK _ _ hJ (Below.refl _ _) ?_
      first | exact rfl | exact val_mod _
    · go_simp
      refine hK _ _ hJ (Below.refl _ _) ?_
      first | exact rfl | exact val_mod _
    · have e6 : v 6 = .slice (some ⟨tb, tof, none⟩) 8 tc := hF 6 (hA 6 (by simp))
      simp only [e6] at hK
      go_simp
      refine hK _ _ hJ (Below.refl _ _) ?_
      first | exact rfl | exact val_mod _
    · have e7 : v 7 = .pointer (some ⟨tb, tof + 6, none⟩) := hF 7 (hA 7 (by simp))
      have c0 := Ct6.out _ hJ
      simp only [e7] at hK
      go_simp
      refine hK _ _ hJ (Below.refl _ _) ?_
      first | exact rfl | exact val_mod _
    · go_simp
      refine hK _ _ hJ (Below.refl _ _) ?_
      first | exact rfl | exact val_mod _
    · have e9 : v 9 = .slice (some ⟨tb, tof, none⟩) 8 tc := hF 9 (hA 9 (by simp))
      simp only [e9] at hK
      go_simp
      refine hK _ _ hJ (Below.refl _ _) ?_
      first | exact rfl | exact val_mod _
    · have e10 : v 10 = .pointer (some ⟨tb, tof + 7, none⟩) := hF 10 (hA 10 (by simp))
      have c0 := Ct7.out _ hJ
      simp only [e10] at hK
      go_simp
      refine hK _ _ hJ (Below.refl _ _) ?_
      first | exact rfl | exact val_mod _
    · have e2 : v 2 = U8 (gb chip 6) := hF 2 (hA 2 (by simp))
      have e5 : v 5 = U8 (gb chip 7) := hF 5 (hA 5 (by simp))
      have e8 : v 8 = U8 (gb term 6) := hF 8 (hA 8 (by simp))
      have e11 : v 11 = U8 (gb term 7) := hF 11 (hA 11 (by simp))
      simp only [e2, e5, e8, e11] at hK
      go_simp
      exact hK _ _ (hJ.alloc hJ.size _) ((Below.refl _ _).alloc (Nat.le_refl _) _) ⟨_, rfl, heap_alloc_new _ _⟩
    · obtain ⟨q, e12, hq⟩ : ∃ q, v 12 = .slice (some ⟨q, 0, none⟩) 4 4 ∧ w1.heap[q]? = some (.cells (([gb chip 6, gb chip 7, gb term 6, gb term 7] : List UInt8).map U8).toArray 5 (0, 0)) := hF 12 (hA 12 (by simp))
      simp only [e12] at hK
      go_simp
      refine (rnumber_any [gb chip 6, gb chip 7, gb term 6, gb term 7] _ _ w1 (row_bs (n := 4) rfl (by simp) hq)).mono ?_
      rintro e w5 ⟨rfl, hw5⟩
      rw [hw5, HNQ.out]
      exact hK _ _ hJ (Below.refl _ _) rfl
    · have e13 : v 13 = .tuple #[.int .i64 (numS chip term), .int .i64 0] := hF 13 (hA 13 (by simp))
      simp only [e13] at hK
      go_simp
      refine hK _ _ hJ (Below.refl _ _) ?_
      first | exact rfl | exact val_mod _
    · have e14 : v 14 = .tuple #[.int .i64 (numS chip term), .int .i64 0] := hF 14 (hA 14 (by simp))
      simp only [e14] at hK
      go_simp
      refine hK _ _ hJ (Below.refl _ _) ?_
      first | exact rfl | exact val_mod _
    · have e14 : v 14 = .tuple #[.int .i64 (numS chip term), .int .i64 0] := hF 14 (hA 14 (by simp))
      simp only [e14] at hK
      go_simp
      refine hK _ _ hJ (Below.refl _ _) ?_
      first | exact rfl | exact val_mod _
    · have e15 : v 15 = .int .i64 (numS chip term) := hF 15 (hA 15 (by simp))
      simp only [e15] at hK
      go_simp
      refine hK _ _ hJ (Below.refl _ _) ?_
      first | exact rfl | exact val_mod _
    · have e16 : v 16 = .int .i64 0 := hF 16 (hA 16 (by simp))
      simp only [e16] at hK
      go_simp
      refine hK _ _ hJ (Below.refl _ _) ?_
      first | exact rfl | exact val_mod _
  case tail =>
    intro v w1 hJ hF
    have e0 : v 0 = .slice (some ⟨cb, co, none⟩) 8 cc := hF 0 (by simp)
    have e1 : v 1 = .pointer (some ⟨cb, co + 6, none⟩) := hF 1 (by simp)
    have e2 : v 2 = U8 (gb chip 6) := hF 2 (by simp)
    have e3 : v 3 = .slice (some ⟨cb, co, none⟩) 8 cc := hF 3 (by simp)
    have e4 : v 4 = .pointer (some ⟨cb, co + 7, none⟩) := hF 4 (by simp)
    have e5 : v 5 = U8 (gb chip 7) := hF 5 (by simp)
    have e6 : v 6 = .slice (some ⟨tb, tof, none⟩) 8 tc := hF 6 (by simp)
    have e7 : v 7 = .pointer (some ⟨tb, tof + 6, none⟩) := hF 7 (by simp)
    have e8 : v 8 = U8 (gb term 6) := hF 8 (by simp)
    have e9 : v 9 = .slice (some ⟨tb, tof, none⟩) 8 tc := hF 9 (by simp)
    have e10 : v 10 = .pointer (some ⟨tb, tof + 7, none⟩) := hF 10 (by simp)
    have e11 : v 11 = U8 (gb term 7) := hF 11 (by simp)
    have e13 : v 13 = .tuple #[.int .i64 (numS chip term), .int .i64 0] := hF 13 (by simp)
    have e14 : v 14 = .tuple #[.int .i64 (numS chip term), .int .i64 0] := hF 14 (by simp)
    have e15 : v 15 = .int .i64 (numS chip term) := hF 15 (by simp)
    have e16 : v 16 = .int .i64 0 := hF 16 (by simp)
    have e17 : v 17 = .int .i64 (numS chip term) := hF 17 (by simp)
    have e18 : v 18 = .int .i64 0 := hF 18 (by simp)
    simp only [List.drop_succ_cons, List.drop_zero, fillRG, Act.put, Nat.zero_add, Nat.reduceAdd, List.setIfInBounds_toArray, List.set_cons_zero, List.set_cons_succ]
    have HJ := Lib.hid hJ
    have HE := Lib.hid (bs_later HK1.out (fun _ h => h) hJ); have HC := Lib.hid (bs_later HK2.out (fun _ h => h) hJ)
    simp only [e17]
    clear hJ hF
    go_upto_region 5 with (go_at_call 61; refine (rstart_good _ _ (keyW (xorL a b) 1) (keyW (xorL a b) 2) (numS chip term) w1 HE.out HC.out (keyW_len _ _) (keyW_len _ _) HNR.out.1 HNR.out.2).mono ?_; rintro e w5 ⟨v5, rfl, ⟨A1, c1, A2, c2, rfl, hs1, hs2⟩, hb⟩; have HS1 := Lib.hid hs1; have HS2 := Lib.hid hs2; have HB5 := Lib.hid hb; clear hs1 hs2 hb)
    obtain ⟨w6, hw6⟩ : ∃ w6, w6 = w5.alloc (.cells #[.slice A1 16 c1, .slice A2 16 c2, .int .i64 (numS chip term)] 40) := ⟨_, rfl⟩
    rw [← hw6]
    have hh6 : w6.heap[w5.heap.size]? = some (.cells #[.slice A1 16 c1, .slice A2 16 c2, .int .i64 (numS chip term)] 40 (0, 0)) := by rw [hw6]; exact heap_alloc_new _ _
    have HB6 : Hid (Below w5.heap.size w5 w6) := Lib.hid (by rw [hw6]; exact (Below.refl _ _).alloc (Nat.le_refl _) _)
    obtain ⟨p0, p1, p2, _⟩ := sess3 hh6
    have s0 := HB0.out.size; have s2 := HB2.out.size; have s3 := HJ.out.size; have s5 := HB5.out.size; have s6 := HB6.out.size
    have hlt0 := (Array.getElem?_eq_some_iff.1 HH0.out).1
    have hz6 := (HB6.out.block w.heap.size (by omega)).trans ((HB5.out.block w.heap.size (by omega)).trans ((HJ.out.block w.heap.size (by omega)).trans ((HB2.out.block w.heap.size hlt0).trans HH0.out)))
    have HZ6 := Lib.hid hz6
    obtain ⟨z0, z1, z2, zf⟩ := sess3 hz6
    have zf0 := zf 0; have zf1 := zf 1; have zf2 := zf 2
    obtain ⟨y0, y1, y2, _⟩ := sess3 (set3_row (.slice A1 16 c1) (.slice A2 16 c2) (.int .i64 (numS chip term)) HZ6.out)
    clear zf hz6 hw6 hh6
    go_wp2_with fail
    refine bodyPost_ret (v := .agg #[.slice A1 16 c1, .slice A2 16 c2, .int .i64 (numS chip term)]) (by simp only [set3] at y0 y1 y2; simp [results, Tryd.results36, go_sem, y0, y1, y2]) rfl ?_
    have hb06 : Below w.heap.size w w6 := HB0.out.trans ((HB2.out.trans ((HJ.out.trans ((HB5.out.trans (HB6.out.mono s5)).mono s3)).mono s2)).mono s0)
    have hsz : (set3 w6 w.heap.size (.slice A1 16 c1) (.slice A2 16 c2) (.int .i64 (numS chip term))).heap.size = w6.heap.size := by simp [set3]
    have hk : ∀ {v : Value} {l : List UInt8}, BsS w5 (New w1 w5) v l → BsS (set3 w6 w.heap.size (.slice A1 16 c1) (.slice A2 16 c2) (.int .i64 (numS chip term))) (New w (set3 w6 w.heap.size (.slice A1 16 c1) (.slice A2 16 c2) (.int .i64 (numS chip term)))) v l := fun h => BsS.keep h fun g hg hl => by
      have h1 := hg.1
      have h2 := hg.2
      refine ⟨(set3_other (by omega)).trans (HB6.out.block g hg.2), by omega, ?_⟩
      show g < (set3 w6 w.heap.size (.slice A1 16 c1) (.slice A2 16 c2) (.int .i64 (numS chip term))).heap.size
      rw [hsz]; omega
    exact ⟨_, rfl, ⟨A1, c1, A2, c2, rfl, hk HS1.out, hk HS2.out⟩, set3_below hb06 (Nat.le_refl _)⟩
end Go.Proofs.YtjbmmdcnccclaaaDoor
/- Basic access: Answer. -/
namespace Go.Proofs.YtjbmmdcnccclaaaDoor
open Go.RowKit Go.Deep

/-- A session's value, of keys of any lengths. -/
def SessL (w : World) (S : Nat → Prop) (v : Value) (k1 k2 : List UInt8) (n : Int) : Prop := ∃ a b, v = .agg #[a, b, .int .i64 n] ∧ BsS w S a k1 ∧ BsS w S b k2
theorem SessV.l {w : World} {S : Nat → Prop} {v : Value} {k1 k2 : List UInt8} {n : Int} (h : SessV w S v k1 k2 n) : SessL w S v k1 k2 n := by
  obtain ⟨A, c, B, d, e, h1, h2⟩ := h
  exact ⟨_, _, e, h1, h2⟩
/-- The keys of a session and its number; none. -/
def sesW (half other chip term : List UInt8) : List UInt8 × List UInt8 × Int := (keyW (xorL half other) 1, keyW (xorL half other) 2, numS chip term)
/-- What Answer returns: an error, the reply, both keys, the number. -/
def ansW (seed own half m : List UInt8) : Int × List UInt8 × List UInt8 × List UInt8 × Int :=
  if ¬ (seed.length = 16 ∧ half.length = 16 ∧ own.length = 8 ∧ m.length = 40) then (2, [], [], [], 0)
  else if ¬ macOK seed m then (20, [], [], [], 0)
  else if ¬ ((plainW seed m).drop 8).take 8 = own then (21, [], [], [], 0)
  else (0, msgW seed (own ++ (plainW seed m).take 8 ++ half), sesW half ((plainW seed m).drop 16) own ((plainW seed m).take 8))
def AnsOut (r : Int × List UInt8 × List UInt8 × List UInt8 × Int) (w : World) (e : Ending) (w' : World) : Prop :=
  ∃ v s, e = .returned (.tuple #[v, s, .int .i64 r.1]) ∧ BsS w' (New w w') v r.2.1 ∧ SessL w' (New w w') s r.2.2.1 r.2.2.2.1 r.2.2.2.2 ∧ Below w.heap.size w w'
theorem sizes1 (n m p : Nat) (a : Option Addr) (c : Nat) : sizesB n m [(a, p, c)] = decide (n = 16 ∧ m = 16 ∧ p = 8) := by
  unfold sizesB
  rw [Bool.eq_iff_iff]
  simp
  omega
set_option maxRecDepth 100000 in
set_option maxHeartbeats 4000000 in
theorem answer_any (vd vo vh vm : Value) (seed own half m : List UInt8) (w : World) (hK : KD w) (hd : Bs w w.heap.size vd seed) (ho : Bs w w.heap.size vo own) (hh : Bs w w.heap.size vh half) (hm : Bs w w.heap.size vm m) :
    Calls Tryd.prog 19 #[vd, vo, vh, vm] w (AnsOut (ansW seed own half m) w) := by
  obtain ⟨w0, hw0⟩ : ∃ w0, w0 = w.alloc (.cells #[.slice none 0 0, .slice none 0 0, .int .i64 0] 40) := ⟨_, rfl⟩
  have hB0 : Below w.heap.size w w0 := by rw [hw0]; exact (Below.refl _ _).alloc (Nat.le_refl _) _
  have hz0 : w0.heap.size = w.heap.size + 1 := by rw [hw0]; simp
  have hh0 : w0.heap[w.heap.size]? = some (.cells #[.slice none 0 0, .slice none 0 0, .int .i64 0] 40 (0, 0)) := by rw [hw0]; exact heap_alloc_new _ _
  have hlt0 := (Array.getElem?_eq_some_iff.1 hh0).1
  have FR := Lib.hid (fun (W : World) (hb : Below w0.heap.size w0 W) => sess3 ((hb.block w.heap.size hlt0).trans hh0))
  have RN := Lib.hid (fun (W : World) (a b c : Value) (hb : Below w0.heap.size w0 W) => sess3 (set3_row a b c ((hb.block w.heap.size hlt0).trans hh0)))
  have OUT := Lib.hid (fun (W : World) (a b c : Value) (hb : Below w0.heap.size w0 W) => (set3_below (a := a) (b := b) (c := c) (hB0.trans (hb.mono hB0.size)) (Nat.le_refl _) : Below w.heap.size w (set3 W w.heap.size a b c)))
  obtain ⟨da, dn, dc, rfl⟩ := hd.form
  obtain ⟨oa, on, oc, rfl⟩ := ho.form
  obtain ⟨ha, hn, hc, rfl⟩ := hh.form
  obtain ⟨ma, mn, mc, rfl⟩ := hm.form
  obtain rfl := Bs.lenEq hd
  obtain rfl := Bs.lenEq ho
  obtain rfl := Bs.lenEq hh
  obtain rfl := Bs.lenEq hm
  obtain ⟨w1, hw1⟩ : ∃ w1, w1 = w0.alloc (.cells #[.slice oa own.length oc] 23) := ⟨_, rfl⟩
  have hB1 : Below w0.heap.size w0 w1 := by rw [hw1]; exact (Below.refl _ _).alloc (Nat.le_refl _) _
  have hg1 : w1.heap[w0.heap.size]? = some (.cells ([(oa, own.length, oc)].map slV).toArray 23 (0, 0)) := by rw [hw1]; exact heap_alloc_new _ _
  have HSZ := sizes_any da ha seed.length half.length dc hc [(oa, own.length, oc)] w0.heap.size 23 w1 hg1 (by simp)
  rw [sizes1] at HSZ
  have HSZ := Lib.hid HSZ
  have HBW1 : Hid (Below w.heap.size w w1) := Lib.hid (hB0.trans (hB1.mono hB0.size))
  have HB1 := Lib.hid hB1; have HW1 := Lib.hid hw1; have HW0 := Lib.hid hw0; have HB0 := Lib.hid hB0; have HZ0 := Lib.hid hz0
  have HD := Lib.hid (hd.lift HBW1.out); have HOW := Lib.hid (ho.lift HBW1.out); have HHA := Lib.hid (hh.lift HBW1.out); have HM := Lib.hid (hm.lift HBW1.out); have HK := Lib.hid (hK.below HBW1.out hK.lt)
  clear hK hd ho hh hm hw0 hB0 hz0 hh0 hlt0 hw1 hB1 hg1
  by_cases h1 : seed.length = 16 ∧ half.length = 16 ∧ own.length = 8
  · have e1 : decide (seed.length = 16 ∧ half.length = 16 ∧ own.length = 8) = true := decide_eq_true h1
    rw [e1] at HSZ
    have H1 := Lib.hid h1
    clear e1 h1
    by_cases h2 : m.length = 40
    · have t2 : ((m.length : Int) != 40) = false := by simp; omega
      have H2 := Lib.hid h2
      have HRD := Lib.hid (read_any _ _ seed m w1 HK.out HD.out HM.out (by have := H1.out; omega) h2)
      have HLP := Lib.hid (plainW_len seed m h2)
      clear h2
      by_cases h3 : macOK seed m
      · have H3 := Lib.hid h3
        obtain ⟨o, hoo⟩ : ∃ o, decide (((plainW seed m).drop 8).take 8 = own) = o := ⟨_, rfl⟩
        have HO := Lib.hid hoo
        clear h3 hoo
        cases o with
        | false =>
          go_enter Tryd.func19, Tryd.ntmps19
          go_upto_region 1 with fail
          rw [← HW0.out]
          go_upto_region 7 with (first
            | (go_at_call 33; refine (bequal_any _ _ (((plainW seed m).drop 8).take 8) own _ _ w3 HS2.out (HOW.out.lift HB3.out)).mono ?_; rintro e w4 ⟨rfl, hw4⟩; rw [HO.out, hw4]; clear hw4 w4)
            | (go_at_call 32; refine HRD.out.mono ?_; rintro e w3 ⟨hb, hr⟩; obtain ⟨A1, c1, A2, c2, A3, c3, rfl, hs1, hs2, hs3⟩ := (hr.resolve_left fun h => h.1 H3.out).2; have HS1 := Lib.hid hs1; have HS2 := Lib.hid hs2; have HS3 := Lib.hid hs3; have HB3 := Lib.hid hb; clear hr hs1 hs2 hs3 hb)
            | (go_at_call 26; rw [← HW1.out]; refine HSZ.out.mono ?_; rintro e w2 ⟨rfl, hw2⟩; rw [hw2]; clear hw2 w2))
          have hb3 : Below w0.heap.size w0 w3 := HB1.out.trans (HB3.out.mono HB1.out.size)
          obtain ⟨z0, z1, z2, zf⟩ := FR.out w3 hb3
          have zf0 := zf 0; have zf1 := zf 1; have zf2 := zf 2
          obtain ⟨y0, y1, y2, _⟩ := RN.out w3 (.slice none 0 0) (.slice none 0 0) (.int .i64 0) hb3
          clear zf
          go_wp2_with fail
          refine bodyPost_ret (v := .tuple #[.slice none 0 0, .agg #[.slice none 0 0, .slice none 0 0, .int .i64 0], .int .i64 21]) (by simp only [set3] at y0 y1 y2; simp [results, Tryd.results19, go_sem, y0, y1, y2]) rfl ?_
          rw [show ansW seed own half m = (21, [], [], [], 0) from (by unfold ansW; rw [if_neg (by have := H1.out; have := H2.out; omega), if_neg (fun h => h H3.out), if_pos (of_decide_eq_false HO.out)])]
          exact ⟨_, _, rfl, bs_nil _ _, ⟨_, _, rfl, bs_nil _ _, bs_nil _ _⟩, OUT.out w3 _ _ _ hb3⟩
        | true =>
          have HE : Hid (ansW seed own half m = (0, msgW seed (own ++ (plainW seed m).take 8 ++ half), sesW half ((plainW seed m).drop 16) own ((plainW seed m).take 8))) := Lib.hid (by unfold ansW; rw [if_neg (by have := H1.out; have := H2.out; omega), if_neg (fun h => h H3.out), if_neg (fun h => h (of_decide_eq_true HO.out))])
          have h32 : (own ++ (plainW seed m).take 8 ++ half).length = 32 := by
            rw [List.length_append, List.length_append, List.length_take, HLP.out]
            have := H1.out; omega
          have H32 := Lib.hid h32
          have HML := Lib.hid (msgW_len seed _ h32)
          clear h32
          go_enter Tryd.func19, Tryd.ntmps19
          go_upto_region 1 with fail
          rw [← HW0.out]
          go_wp2_with (first
            | (go_at_call 34; refine (session_any _ _ _ _ half ((plainW seed m).drop 16) own ((plainW seed m).take 8) w5 (HK.out.below HB5.out HK.out.lt) (HHA.out.lift HB5.out) (bs_later (bs_later HS3.out (fun _ h => h.2) (Below.refl _ _)) (fun _ h => h) HB35.out) (HOW.out.lift HB5.out) (bs_later (bs_later HS1.out (fun _ h => h.2) (Below.refl _ _)) (fun _ h => h) HB35.out) H1.out.2.1 (by rw [List.length_drop, HLP.out]) H1.out.2.2 (by rw [List.length_take, HLP.out]; rfl)).mono ?_; rintro e w6 ⟨v6, rfl, ⟨X1, x1, X2, x2, rfl, hx1, hx2⟩, hb⟩; have HX1 := Lib.hid hx1; have HX2 := Lib.hid hx2; have HB6 := Lib.hid hb; have hb6 : Below w0.heap.size w0 w6 := HB1.out.trans ((HB5.out.trans (hb.mono HB5.out.size)).mono HB1.out.size); have HBZ := Lib.hid hb6; obtain ⟨z0, z1, z2, zf⟩ := FR.out w6 hb6; have zf0 := zf 0; have zf1 := zf 1; have zf2 := zf 2; obtain ⟨y0, y1, y2, _⟩ := RN.out w6 (.slice X1 16 x1) (.slice X2 16 x2) (.int .i64 (numS own ((plainW seed m).take 8))) hb6; clear zf hx1 hx2 hb hb6)
            | (go_at_call 27; refine (message_any _ _ _ _ seed own ((plainW seed m).take 8) half w3 (HK.out.below HB3.out HK.out.lt) (HD.out.lift HB3.out) (HOW.out.lift HB3.out) (bs_later HS1.out (fun _ h => h.2) (Below.refl _ _)) (HHA.out.lift HB3.out) (by have := H1.out; omega) H32.out).mono ?_; rintro e w5 ⟨v5, rfl, ho5, hb⟩; have HR5 := Lib.hid (OwnB.out ho5 (by rw [HML.out]; omega) w3 (Nat.le_refl _)); have HB35 := Lib.hid hb; have HB5 := Lib.hid (HB3.out.trans (hb.mono HB3.out.size)); clear ho5 hb)
            | (go_at_call 33; refine (bequal_any _ _ (((plainW seed m).drop 8).take 8) own _ _ w3 HS2.out (HOW.out.lift HB3.out)).mono ?_; rintro e w4 ⟨rfl, hw4⟩; rw [HO.out, hw4]; clear hw4 w4)
            | (go_at_call 32; refine HRD.out.mono ?_; rintro e w3 ⟨hb, hr⟩; obtain ⟨A1, c1, A2, c2, A3, c3, rfl, hs1, hs2, hs3⟩ := (hr.resolve_left fun h => h.1 H3.out).2; have HS1 := Lib.hid hs1; have HS2 := Lib.hid hs2; have HS3 := Lib.hid hs3; have HB3 := Lib.hid hb; clear hr hs1 hs2 hs3 hb)
            | (go_at_call 26; rw [← HW1.out]; refine HSZ.out.mono ?_; rintro e w2 ⟨rfl, hw2⟩; rw [hw2]; clear hw2 w2))
          refine bodyPost_ret (v := .tuple #[v5, .agg #[.slice X1 16 x1, .slice X2 16 x2, .int .i64 (numS own ((plainW seed m).take 8))], .int .i64 0]) (by simp only [set3] at y0 y1 y2; simp [results, Tryd.results19, go_sem, y0, y1, y2]) rfl ?_
          rw [HE.out]
          have s0 := HZ0.out; have s1 := HB1.out.size; have s3 := HB3.out.size; have s35 := HB35.out.size; have s6 := HB6.out.size
          have hsz : (set3 w6 w.heap.size (.slice X1 16 x1) (.slice X2 16 x2) (.int .i64 (numS own ((plainW seed m).take 8)))).heap.size = w6.heap.size := by simp [set3]
          have hlt : ∀ g, g < w6.heap.size → g < (set3 w6 w.heap.size (.slice X1 16 x1) (.slice X2 16 x2) (.int .i64 (numS own ((plainW seed m).take 8)))).heap.size := fun g h => by rw [hsz]; exact h
          refine ⟨v5, _, rfl, ?_, ⟨_, _, rfl, ?_, ?_⟩, OUT.out w6 _ _ _ HBZ.out⟩
          · exact BsS.keep HR5.out fun g hg hl => ⟨(set3_other (by have := hg.1; omega)).trans (HB6.out.block g hg.2), by have := hg.1; omega, hlt g (by have := hg.2; omega)⟩
          · exact BsS.keep HX1.out fun g hg hl => ⟨set3_other (by have := hg.1; omega), by have := hg.1; omega, hlt g hg.2⟩
          · exact BsS.keep HX2.out fun g hg hl => ⟨set3_other (by have := hg.1; omega), by have := hg.1; omega, hlt g hg.2⟩
      · have H3 := Lib.hid h3
        clear h3
        go_enter Tryd.func19, Tryd.ntmps19
        go_upto_region 1 with fail
        rw [← HW0.out]
        go_upto_region 5 with (first
          | (go_at_call 32; refine HRD.out.mono ?_; rintro e w3 ⟨hb, hr⟩; obtain rfl := (hr.resolve_right fun h => H3.out h.1).2; have HB3 := Lib.hid hb; clear hr hb)
          | (go_at_call 26; rw [← HW1.out]; refine HSZ.out.mono ?_; rintro e w2 ⟨rfl, hw2⟩; rw [hw2]; clear hw2 w2))
        have hb3 : Below w0.heap.size w0 w3 := HB1.out.trans (HB3.out.mono HB1.out.size)
        obtain ⟨z0, z1, z2, zf⟩ := FR.out w3 hb3
        have zf0 := zf 0; have zf1 := zf 1; have zf2 := zf 2
        obtain ⟨y0, y1, y2, _⟩ := RN.out w3 (.slice none 0 0) (.slice none 0 0) (.int .i64 0) hb3
        clear zf
        go_wp2_with fail
        refine bodyPost_ret (v := .tuple #[.slice none 0 0, .agg #[.slice none 0 0, .slice none 0 0, .int .i64 0], .int .i64 20]) (by simp only [set3] at y0 y1 y2; simp [results, Tryd.results19, go_sem, y0, y1, y2]) rfl ?_
        rw [show ansW seed own half m = (20, [], [], [], 0) from (by unfold ansW; rw [if_neg (by have := H1.out; have := H2.out; omega), if_pos H3.out])]
        exact ⟨_, _, rfl, bs_nil _ _, ⟨_, _, rfl, bs_nil _ _, bs_nil _ _⟩, OUT.out w3 _ _ _ hb3⟩
    · have t2 : ((m.length : Int) != 40) = true := by simp; omega
      have H2 := Lib.hid h2
      clear h2
      go_enter Tryd.func19, Tryd.ntmps19
      go_upto_region 1 with fail
      rw [← HW0.out]
      go_upto_region 2 with (go_at_call 26; rw [← HW1.out]; refine HSZ.out.mono ?_; rintro e w2 ⟨rfl, hw2⟩; rw [hw2]; clear hw2 w2)
      obtain ⟨z0, z1, z2, zf⟩ := FR.out w1 HB1.out
      have zf0 := zf 0; have zf1 := zf 1; have zf2 := zf 2
      obtain ⟨y0, y1, y2, _⟩ := RN.out w1 (.slice none 0 0) (.slice none 0 0) (.int .i64 0) HB1.out
      clear zf
      go_wp2_with fail
      refine bodyPost_ret (v := .tuple #[.slice none 0 0, .agg #[.slice none 0 0, .slice none 0 0, .int .i64 0], .int .i64 2]) (by simp only [set3] at y0 y1 y2; simp [results, Tryd.results19, go_sem, y0, y1, y2]) rfl ?_
      rw [show ansW seed own half m = (2, [], [], [], 0) from (by unfold ansW; rw [if_pos (fun h => H2.out h.2.2.2)])]
      exact ⟨_, _, rfl, bs_nil _ _, ⟨_, _, rfl, bs_nil _ _, bs_nil _ _⟩, OUT.out w1 _ _ _ HB1.out⟩
  · have e1 : decide (seed.length = 16 ∧ half.length = 16 ∧ own.length = 8) = false := decide_eq_false h1
    rw [e1] at HSZ
    have H1 := Lib.hid h1
    clear e1 h1
    go_enter Tryd.func19, Tryd.ntmps19
    go_upto_region 1 with fail
    rw [← HW0.out]
    go_upto_region 2 with (go_at_call 26; rw [← HW1.out]; refine HSZ.out.mono ?_; rintro e w2 ⟨rfl, hw2⟩; rw [hw2]; clear hw2 w2)
    obtain ⟨z0, z1, z2, zf⟩ := FR.out w1 HB1.out
    have zf0 := zf 0; have zf1 := zf 1; have zf2 := zf 2
    obtain ⟨y0, y1, y2, _⟩ := RN.out w1 (.slice none 0 0) (.slice none 0 0) (.int .i64 0) HB1.out
    clear zf
    go_wp2_with fail
    refine bodyPost_ret (v := .tuple #[.slice none 0 0, .agg #[.slice none 0 0, .slice none 0 0, .int .i64 0], .int .i64 2]) (by simp only [set3] at y0 y1 y2; simp [results, Tryd.results19, go_sem, y0, y1, y2]) rfl ?_
    rw [show ansW seed own half m = (2, [], [], [], 0) from (by unfold ansW; rw [if_pos (fun h => H1.out ⟨h.1, h.2.1, h.2.2.1⟩)])]
    exact ⟨_, _, rfl, bs_nil _ _, ⟨_, _, rfl, bs_nil _ _, bs_nil _ _⟩, OUT.out w1 _ _ _ HB1.out⟩
end Go.Proofs.YtjbmmdcnccclaaaDoor
/- Basic access: Finish. -/
namespace Go.Proofs.YtjbmmdcnccclaaaDoor
open Go.RowKit Go.Deep

/-- What Finish returns: an error, both keys, the number. -/
def fnsW (seed chip own half m : List UInt8) : Int × List UInt8 × List UInt8 × Int :=
  if ¬ (seed.length = 16 ∧ half.length = 16 ∧ chip.length = 8 ∧ own.length = 8 ∧ m.length = 40) then (2, [], [], 0)
  else if ¬ macOK seed m then (20, [], [], 0)
  else if ¬ ((plainW seed m).take 8 = chip ∧ ((plainW seed m).drop 8).take 8 = own) then (21, [], [], 0)
  else (0, sesW half ((plainW seed m).drop 16) chip own)
def FinOut (r : Int × List UInt8 × List UInt8 × Int) (w : World) (e : Ending) (w' : World) : Prop :=
  ∃ s, e = .returned (.tuple #[s, .int .i64 r.1]) ∧ SessL w' (New w w') s r.2.1 r.2.2.1 r.2.2.2 ∧ Below w.heap.size w w'
set_option maxRecDepth 100000 in
set_option maxHeartbeats 4000000 in
theorem finish_any (vd vc vo vh vm : Value) (seed chip own half m : List UInt8) (w : World) (hK : KD w) (hd : Bs w w.heap.size vd seed) (hc : Bs w w.heap.size vc chip) (ho : Bs w w.heap.size vo own) (hh : Bs w w.heap.size vh half) (hm : Bs w w.heap.size vm m) :
    Calls Tryd.prog 22 #[vd, vc, vo, vh, vm] w (FinOut (fnsW seed chip own half m) w) := by
  obtain ⟨w0, hw0⟩ : ∃ w0, w0 = w.alloc (.cells #[.slice none 0 0, .slice none 0 0, .int .i64 0] 40) := ⟨_, rfl⟩
  have hB0 : Below w.heap.size w w0 := by rw [hw0]; exact (Below.refl _ _).alloc (Nat.le_refl _) _
  have hz0 : w0.heap.size = w.heap.size + 1 := by rw [hw0]; simp
  have hh0 : w0.heap[w.heap.size]? = some (.cells #[.slice none 0 0, .slice none 0 0, .int .i64 0] 40 (0, 0)) := by rw [hw0]; exact heap_alloc_new _ _
  have hlt0 := (Array.getElem?_eq_some_iff.1 hh0).1
  have FR := Lib.hid (fun (W : World) (hb : Below w0.heap.size w0 W) => sess3 ((hb.block w.heap.size hlt0).trans hh0))
  have RN := Lib.hid (fun (W : World) (a b c : Value) (hb : Below w0.heap.size w0 W) => sess3 (set3_row a b c ((hb.block w.heap.size hlt0).trans hh0)))
  have OUT := Lib.hid (fun (W : World) (a b c : Value) (hb : Below w0.heap.size w0 W) => (set3_below (a := a) (b := b) (c := c) (hB0.trans (hb.mono hB0.size)) (Nat.le_refl _) : Below w.heap.size w (set3 W w.heap.size a b c)))
  obtain ⟨da, dn, dc, rfl⟩ := hd.form
  obtain ⟨ca, cn, cc, rfl⟩ := hc.form
  obtain ⟨oa, on, oc, rfl⟩ := ho.form
  obtain ⟨ha, hn, hcc, rfl⟩ := hh.form
  obtain ⟨ma, mn, mc, rfl⟩ := hm.form
  obtain rfl := Bs.lenEq hd
  obtain rfl := Bs.lenEq hc
  obtain rfl := Bs.lenEq ho
  obtain rfl := Bs.lenEq hh
  obtain rfl := Bs.lenEq hm
  obtain ⟨w1, hw1⟩ : ∃ w1, w1 = w0.alloc (.cells #[.slice ca chip.length cc, .slice oa own.length oc] 23) := ⟨_, rfl⟩
  have hB1 : Below w0.heap.size w0 w1 := by rw [hw1]; exact (Below.refl _ _).alloc (Nat.le_refl _) _
  have hg1 : w1.heap[w0.heap.size]? = some (.cells ([(ca, chip.length, cc), (oa, own.length, oc)].map slV).toArray 23 (0, 0)) := by rw [hw1]; exact heap_alloc_new _ _
  have HSZ := sizes_any da ha seed.length half.length dc hcc [(ca, chip.length, cc), (oa, own.length, oc)] w0.heap.size 23 w1 hg1 (by simp)
  rw [sizes2] at HSZ
  have HSZ := Lib.hid HSZ
  have HBW1 : Hid (Below w.heap.size w w1) := Lib.hid (hB0.trans (hB1.mono hB0.size))
  have HB1 := Lib.hid hB1; have HW1 := Lib.hid hw1; have HW0 := Lib.hid hw0; have HB0 := Lib.hid hB0; have HZ0 := Lib.hid hz0
  have HD := Lib.hid (hd.lift HBW1.out); have HCH := Lib.hid (hc.lift HBW1.out); have HOW := Lib.hid (ho.lift HBW1.out); have HHA := Lib.hid (hh.lift HBW1.out); have HM := Lib.hid (hm.lift HBW1.out); have HK := Lib.hid (hK.below HBW1.out hK.lt)
  clear hK hd hc ho hh hm hw0 hB0 hz0 hh0 hlt0 hw1 hB1 hg1
  by_cases h1 : seed.length = 16 ∧ half.length = 16 ∧ chip.length = 8 ∧ own.length = 8
  · have e1 : decide (seed.length = 16 ∧ half.length = 16 ∧ chip.length = 8 ∧ own.length = 8) = true := decide_eq_true h1
    rw [e1] at HSZ
    have H1 := Lib.hid h1
    clear e1 h1
    by_cases h2 : m.length = 40
    · have t2 : ((m.length : Int) != 40) = false := by simp; omega
      have H2 := Lib.hid h2
      have HRD := Lib.hid (read_any _ _ seed m w1 HK.out HD.out HM.out (by have := H1.out; omega) h2)
      have HLP := Lib.hid (plainW_len seed m h2)
      clear h2
      by_cases h3 : macOK seed m
      · have H3 := Lib.hid h3
        obtain ⟨o1, hoo1⟩ : ∃ o, decide ((plainW seed m).take 8 = chip) = o := ⟨_, rfl⟩
        obtain ⟨o2, hoo2⟩ : ∃ o, decide (((plainW seed m).drop 8).take 8 = own) = o := ⟨_, rfl⟩
        have HO1 := Lib.hid hoo1; have HO2 := Lib.hid hoo2
        clear h3 hoo1 hoo2
        cases o1 with
        | false =>
          go_enter Tryd.func22, Tryd.ntmps22
          go_upto_region 1 with fail
          rw [← HW0.out]
          go_upto_region 7 with (first
            | (go_at_call 33; refine (bequal_any _ _ ((plainW seed m).take 8) chip _ _ w3 HS1.out (HCH.out.lift HB3.out)).mono ?_; rintro e w4 ⟨rfl, hw4⟩; rw [HO1.out, hw4]; clear hw4 w4)
            | (go_at_call 32; refine HRD.out.mono ?_; rintro e w3 ⟨hb, hr⟩; obtain ⟨A1, c1, A2, c2, A3, c3, rfl, hs1, hs2, hs3⟩ := (hr.resolve_left fun h => h.1 H3.out).2; have HS1 := Lib.hid hs1; have HS2 := Lib.hid hs2; have HS3 := Lib.hid hs3; have HB3 := Lib.hid hb; clear hr hs1 hs2 hs3 hb)
            | (go_at_call 26; rw [← HW1.out]; refine HSZ.out.mono ?_; rintro e w2 ⟨rfl, hw2⟩; rw [hw2]; clear hw2 w2))
          have hb3 : Below w0.heap.size w0 w3 := HB1.out.trans (HB3.out.mono HB1.out.size)
          obtain ⟨z0, z1, z2, zf⟩ := FR.out w3 hb3
          have zf0 := zf 0; have zf1 := zf 1; have zf2 := zf 2
          obtain ⟨y0, y1, y2, _⟩ := RN.out w3 (.slice none 0 0) (.slice none 0 0) (.int .i64 0) hb3
          clear zf
          go_wp2_with fail
          refine bodyPost_ret (v := .tuple #[.agg #[.slice none 0 0, .slice none 0 0, .int .i64 0], .int .i64 21]) (by simp only [set3] at y0 y1 y2; simp [results, Tryd.results22, go_sem, y0, y1, y2]) rfl ?_
          rw [show fnsW seed chip own half m = (21, [], [], 0) from (by unfold fnsW; rw [if_neg (fun h => h ⟨H1.out.1, H1.out.2.1, H1.out.2.2.1, H1.out.2.2.2, H2.out⟩), if_neg (fun h => h H3.out), if_pos (fun h => of_decide_eq_false HO1.out h.1)])]
          exact ⟨_, rfl, ⟨_, _, rfl, bs_nil _ _, bs_nil _ _⟩, OUT.out w3 _ _ _ hb3⟩
        | true =>
          cases o2 with
          | false =>
            go_enter Tryd.func22, Tryd.ntmps22
            go_upto_region 1 with fail
            rw [← HW0.out]
            go_upto_region 7 with (first
              | (go_at_call 33; refine (bequal_any _ _ (((plainW seed m).drop 8).take 8) own _ _ w3 HS2.out (HOW.out.lift HB3.out)).mono ?_; rintro e w4 ⟨rfl, hw4⟩; rw [HO2.out, hw4]; clear hw4 w4)
              | (go_at_call 33; refine (bequal_any _ _ ((plainW seed m).take 8) chip _ _ w3 HS1.out (HCH.out.lift HB3.out)).mono ?_; rintro e w4 ⟨rfl, hw4⟩; rw [HO1.out, hw4]; clear hw4 w4)
              | (go_at_call 32; refine HRD.out.mono ?_; rintro e w3 ⟨hb, hr⟩; obtain ⟨A1, c1, A2, c2, A3, c3, rfl, hs1, hs2, hs3⟩ := (hr.resolve_left fun h => h.1 H3.out).2; have HS1 := Lib.hid hs1; have HS2 := Lib.hid hs2; have HS3 := Lib.hid hs3; have HB3 := Lib.hid hb; clear hr hs1 hs2 hs3 hb)
              | (go_at_call 26; rw [← HW1.out]; refine HSZ.out.mono ?_; rintro e w2 ⟨rfl, hw2⟩; rw [hw2]; clear hw2 w2))
            have hb3 : Below w0.heap.size w0 w3 := HB1.out.trans (HB3.out.mono HB1.out.size)
            obtain ⟨z0, z1, z2, zf⟩ := FR.out w3 hb3
            have zf0 := zf 0; have zf1 := zf 1; have zf2 := zf 2
            obtain ⟨y0, y1, y2, _⟩ := RN.out w3 (.slice none 0 0) (.slice none 0 0) (.int .i64 0) hb3
            clear zf
            go_wp2_with fail
            refine bodyPost_ret (v := .tuple #[.agg #[.slice none 0 0, .slice none 0 0, .int .i64 0], .int .i64 21]) (by simp only [set3] at y0 y1 y2; simp [results, Tryd.results22, go_sem, y0, y1, y2]) rfl ?_
            rw [show fnsW seed chip own half m = (21, [], [], 0) from (by unfold fnsW; rw [if_neg (fun h => h ⟨H1.out.1, H1.out.2.1, H1.out.2.2.1, H1.out.2.2.2, H2.out⟩), if_neg (fun h => h H3.out), if_pos (fun h => of_decide_eq_false HO2.out h.2)])]
            exact ⟨_, rfl, ⟨_, _, rfl, bs_nil _ _, bs_nil _ _⟩, OUT.out w3 _ _ _ hb3⟩
          | true =>
            have HE : Hid (fnsW seed chip own half m = (0, sesW half ((plainW seed m).drop 16) chip own)) := Lib.hid (by unfold fnsW; rw [if_neg (fun h => h ⟨H1.out.1, H1.out.2.1, H1.out.2.2.1, H1.out.2.2.2, H2.out⟩), if_neg (fun h => h H3.out), if_neg (fun h => h ⟨of_decide_eq_true HO1.out, of_decide_eq_true HO2.out⟩)])
            go_enter Tryd.func22, Tryd.ntmps22
            go_upto_region 1 with fail
            rw [← HW0.out]
            go_wp2_with (first
              | (go_at_call 34; refine (session_any _ _ _ _ half ((plainW seed m).drop 16) chip own w3 (HK.out.below HB3.out HK.out.lt) (HHA.out.lift HB3.out) (bs_later HS3.out (fun _ h => h.2) (Below.refl _ _)) (HCH.out.lift HB3.out) (HOW.out.lift HB3.out) H1.out.2.1 (by rw [List.length_drop, HLP.out]) H1.out.2.2.1 H1.out.2.2.2).mono ?_; rintro e w6 ⟨v6, rfl, ⟨X1, x1, X2, x2, rfl, hx1, hx2⟩, hb⟩; have HX1 := Lib.hid hx1; have HX2 := Lib.hid hx2; have HB6 := Lib.hid hb; have hb6 : Below w0.heap.size w0 w6 := HB1.out.trans ((HB3.out.trans (hb.mono HB3.out.size)).mono HB1.out.size); have HBZ := Lib.hid hb6; obtain ⟨z0, z1, z2, zf⟩ := FR.out w6 hb6; have zf0 := zf 0; have zf1 := zf 1; have zf2 := zf 2; obtain ⟨y0, y1, y2, _⟩ := RN.out w6 (.slice X1 16 x1) (.slice X2 16 x2) (.int .i64 (numS chip own)) hb6; clear zf hx1 hx2 hb hb6)
              | (go_at_call 33; refine (bequal_any _ _ (((plainW seed m).drop 8).take 8) own _ _ w3 HS2.out (HOW.out.lift HB3.out)).mono ?_; rintro e w4 ⟨rfl, hw4⟩; rw [HO2.out, hw4]; clear hw4 w4)
              | (go_at_call 33; refine (bequal_any _ _ ((plainW seed m).take 8) chip _ _ w3 HS1.out (HCH.out.lift HB3.out)).mono ?_; rintro e w4 ⟨rfl, hw4⟩; rw [HO1.out, hw4]; clear hw4 w4)
              | (go_at_call 32; refine HRD.out.mono ?_; rintro e w3 ⟨hb, hr⟩; obtain ⟨A1, c1, A2, c2, A3, c3, rfl, hs1, hs2, hs3⟩ := (hr.resolve_left fun h => h.1 H3.out).2; have HS1 := Lib.hid hs1; have HS2 := Lib.hid hs2; have HS3 := Lib.hid hs3; have HB3 := Lib.hid hb; clear hr hs1 hs2 hs3 hb)
              | (go_at_call 26; rw [← HW1.out]; refine HSZ.out.mono ?_; rintro e w2 ⟨rfl, hw2⟩; rw [hw2]; clear hw2 w2))
            refine bodyPost_ret (v := .tuple #[.agg #[.slice X1 16 x1, .slice X2 16 x2, .int .i64 (numS chip own)], .int .i64 0]) (by simp only [set3] at y0 y1 y2; simp [results, Tryd.results22, go_sem, y0, y1, y2]) rfl ?_
            rw [HE.out]
            have s0 := HZ0.out; have s1 := HB1.out.size; have s3 := HB3.out.size; have s6 := HB6.out.size
            have hsz : (set3 w6 w.heap.size (.slice X1 16 x1) (.slice X2 16 x2) (.int .i64 (numS chip own))).heap.size = w6.heap.size := by simp [set3]
            have hlt : ∀ g, g < w6.heap.size → g < (set3 w6 w.heap.size (.slice X1 16 x1) (.slice X2 16 x2) (.int .i64 (numS chip own))).heap.size := fun g h => by rw [hsz]; exact h
            refine ⟨_, rfl, ⟨_, _, rfl, ?_, ?_⟩, OUT.out w6 _ _ _ HBZ.out⟩
            · exact BsS.keep HX1.out fun g hg hl => ⟨set3_other (by have := hg.1; omega), by have := hg.1; omega, hlt g hg.2⟩
            · exact BsS.keep HX2.out fun g hg hl => ⟨set3_other (by have := hg.1; omega), by have := hg.1; omega, hlt g hg.2⟩
      · have H3 := Lib.hid h3
        clear h3
        go_enter Tryd.func22, Tryd.ntmps22
        go_upto_region 1 with fail
        rw [← HW0.out]
        go_upto_region 5 with (first
          | (go_at_call 32; refine HRD.out.mono ?_; rintro e w3 ⟨hb, hr⟩; obtain rfl := (hr.resolve_right fun h => H3.out h.1).2; have HB3 := Lib.hid hb; clear hr hb)
          | (go_at_call 26; rw [← HW1.out]; refine HSZ.out.mono ?_; rintro e w2 ⟨rfl, hw2⟩; rw [hw2]; clear hw2 w2))
        have hb3 : Below w0.heap.size w0 w3 := HB1.out.trans (HB3.out.mono HB1.out.size)
        obtain ⟨z0, z1, z2, zf⟩ := FR.out w3 hb3
        have zf0 := zf 0; have zf1 := zf 1; have zf2 := zf 2
        obtain ⟨y0, y1, y2, _⟩ := RN.out w3 (.slice none 0 0) (.slice none 0 0) (.int .i64 0) hb3
        clear zf
        go_wp2_with fail
        refine bodyPost_ret (v := .tuple #[.agg #[.slice none 0 0, .slice none 0 0, .int .i64 0], .int .i64 20]) (by simp only [set3] at y0 y1 y2; simp [results, Tryd.results22, go_sem, y0, y1, y2]) rfl ?_
        rw [show fnsW seed chip own half m = (20, [], [], 0) from (by unfold fnsW; rw [if_neg (fun h => h ⟨H1.out.1, H1.out.2.1, H1.out.2.2.1, H1.out.2.2.2, H2.out⟩), if_pos H3.out])]
        exact ⟨_, rfl, ⟨_, _, rfl, bs_nil _ _, bs_nil _ _⟩, OUT.out w3 _ _ _ hb3⟩
    · have t2 : ((m.length : Int) != 40) = true := by simp; omega
      have H2 := Lib.hid h2
      clear h2
      go_enter Tryd.func22, Tryd.ntmps22
      go_upto_region 1 with fail
      rw [← HW0.out]
      go_upto_region 2 with (go_at_call 26; rw [← HW1.out]; refine HSZ.out.mono ?_; rintro e w2 ⟨rfl, hw2⟩; rw [hw2]; clear hw2 w2)
      obtain ⟨z0, z1, z2, zf⟩ := FR.out w1 HB1.out
      have zf0 := zf 0; have zf1 := zf 1; have zf2 := zf 2
      obtain ⟨y0, y1, y2, _⟩ := RN.out w1 (.slice none 0 0) (.slice none 0 0) (.int .i64 0) HB1.out
      clear zf
      go_wp2_with fail
      refine bodyPost_ret (v := .tuple #[.agg #[.slice none 0 0, .slice none 0 0, .int .i64 0], .int .i64 2]) (by simp only [set3] at y0 y1 y2; simp [results, Tryd.results22, go_sem, y0, y1, y2]) rfl ?_
      rw [show fnsW seed chip own half m = (2, [], [], 0) from (by unfold fnsW; rw [if_pos (fun h => H2.out h.2.2.2.2)])]
      exact ⟨_, rfl, ⟨_, _, rfl, bs_nil _ _, bs_nil _ _⟩, OUT.out w1 _ _ _ HB1.out⟩
  · have e1 : decide (seed.length = 16 ∧ half.length = 16 ∧ chip.length = 8 ∧ own.length = 8) = false := decide_eq_false h1
    rw [e1] at HSZ
    have H1 := Lib.hid h1
    clear e1 h1
    go_enter Tryd.func22, Tryd.ntmps22
    go_upto_region 1 with fail
    rw [← HW0.out]
    go_upto_region 2 with (go_at_call 26; rw [← HW1.out]; refine HSZ.out.mono ?_; rintro e w2 ⟨rfl, hw2⟩; rw [hw2]; clear hw2 w2)
    obtain ⟨z0, z1, z2, zf⟩ := FR.out w1 HB1.out
    have zf0 := zf 0; have zf1 := zf 1; have zf2 := zf 2
    obtain ⟨y0, y1, y2, _⟩ := RN.out w1 (.slice none 0 0) (.slice none 0 0) (.int .i64 0) HB1.out
    clear zf
    go_wp2_with fail
    refine bodyPost_ret (v := .tuple #[.agg #[.slice none 0 0, .slice none 0 0, .int .i64 0], .int .i64 2]) (by simp only [set3] at y0 y1 y2; simp [results, Tryd.results22, go_sem, y0, y1, y2]) rfl ?_
    rw [show fnsW seed chip own half m = (2, [], [], 0) from (by unfold fnsW; rw [if_pos (fun h => H1.out ⟨h.1, h.2.1, h.2.2.1, h.2.2.2.1⟩)])]
    exact ⟨_, rfl, ⟨_, _, rfl, bs_nil _ _, bs_nil _ _⟩, OUT.out w1 _ _ _ HB1.out⟩
end Go.Proofs.YtjbmmdcnccclaaaDoor
/- Basic access, plain: what was asked is answered, and the answer ends the terminal's part. -/
namespace Go.Proofs.YtjbmmdcnccclaaaDoor
open Go.RowKit

theorem sealZ (k p : List UInt8) (hp : p.length = 32) : (sealO k Z16 p).length = 32 := sealO_len32 k p hp
theorem msg_cut (seed p : List UInt8) (hp : p.length = 32) : (msgW seed p).take 32 = sealO (keyW seed 1) Z16 p ∧ (msgW seed p).drop 32 = (codeO (keyW seed 2) (sealO (keyW seed 1) Z16 p)).take 8 := by
  unfold msgW
  rw [List.take_append_of_le_length (by rw [sealZ _ _ hp]; omega), List.drop_append_of_le_length (by rw [sealZ _ _ hp]; omega)]
  rw [List.take_of_length_le (by rw [sealZ _ _ hp]; omega), List.drop_eq_nil_of_le (by rw [sealZ _ _ hp]; omega)]
  exact ⟨rfl, rfl⟩
theorem msg_mac (seed p : List UInt8) (hp : p.length = 32) : macOK seed (msgW seed p) := by
  unfold macOK
  rw [(msg_cut seed p hp).1, (msg_cut seed p hp).2]
theorem msg_plain (seed p : List UInt8) (hp : p.length = 32) : plainW seed (msgW seed p) = p := by
  unfold plainW
  rw [(msg_cut seed p hp).1]
  exact open_seal _ _ _ 2 (by omega)
theorem xorL_comm (a b : List UInt8) : xorL a b = xorL b a := by
  unfold xorL
  congr 1
  funext j
  exact UInt8.xor_comm _ _
theorem three_cut {a b c : List UInt8} (ha : a.length = 8) (hb : b.length = 8) : (a ++ b ++ c).take 8 = a ∧ ((a ++ b ++ c).drop 8).take 8 = b ∧ (a ++ b ++ c).drop 16 = c := by
  rw [List.append_assoc]
  refine ⟨?_, ?_, ?_⟩
  · rw [List.take_append_of_le_length (by omega), List.take_of_length_le (by omega)]
  · rw [List.drop_append_of_le_length (by omega), List.drop_eq_nil_of_le (by omega), List.nil_append, List.take_append_of_le_length (by omega), List.take_of_length_le (by omega)]
  · rw [← List.append_assoc, List.drop_append_of_le_length (by rw [List.length_append]; omega), List.drop_eq_nil_of_le (by rw [List.length_append]; omega), List.nil_append]
theorem three_len {a b c : List UInt8} (ha : a.length = 8) (hb : b.length = 8) (hc : c.length = 16) : (a ++ b ++ c).length = 32 := by rw [List.length_append, List.length_append]; omega
section
variable {seed chip own a b : List UInt8} (hs : seed.length = 16) (hc : chip.length = 8) (ho : own.length = 8) (ha : a.length = 16) (hb : b.length = 16)
include hs hc ho ha
theorem ask_good : askE seed chip own a = 0 ∧ askL seed chip own a = msgW seed (own ++ chip ++ a) := by
  have h : askOK seed chip own a := ⟨hs, ha, hc, ho⟩
  unfold askE askL
  rw [if_pos h, if_pos h]
  exact ⟨rfl, rfl⟩
theorem ask_len : (askL seed chip own a).length = 40 := by
  rw [(ask_good hs hc ho ha).2]
  exact msgW_len seed _ (three_len ho hc ha)
include hb
theorem answer_good : ansW seed chip b (askL seed chip own a) = (0, msgW seed (chip ++ own ++ b), sesW b a chip own) := by
  have hm := ask_len hs hc ho ha
  rw [(ask_good hs hc ho ha).2] at hm ⊢
  have h32 := three_len (c := a) ho hc ha
  have hp := msg_plain seed _ h32
  obtain ⟨c1, c2, c3⟩ := three_cut (c := a) ho hc
  unfold ansW
  rw [if_neg (fun h => h ⟨hs, hb, hc, hm⟩), if_neg (fun h => h (msg_mac seed _ h32)), hp, c1, c2, c3, if_neg (fun h => h rfl)]
theorem finish_good : fnsW seed chip own a (msgW seed (chip ++ own ++ b)) = (0, sesW b a chip own) := by
  have h32 := three_len (c := b) hc ho hb
  have hp := msg_plain seed _ h32
  obtain ⟨c1, c2, c3⟩ := three_cut (c := b) hc ho
  unfold fnsW
  rw [if_neg (fun h => h ⟨hs, ha, hc, ho, msgW_len seed _ h32⟩), if_neg (fun h => h (msg_mac seed _ h32)), hp, c1, c2, c3, if_neg (fun h => h ⟨rfl, rfl⟩)]
  unfold sesW
  rw [xorL_comm a b]
theorem answer_other {chip' : List UInt8} (hc' : chip'.length = 8) (hd : chip' ≠ chip) : ansW seed chip' b (askL seed chip own a) = (21, [], [], [], 0) := by
  have hm := ask_len hs hc ho ha
  rw [(ask_good hs hc ho ha).2] at hm ⊢
  have h32 := three_len (c := a) ho hc ha
  have hp := msg_plain seed _ h32
  obtain ⟨c1, c2, c3⟩ := three_cut (c := a) ho hc
  unfold ansW
  rw [if_neg (fun h => h ⟨hs, hb, hc', hm⟩), if_neg (fun h => h (msg_mac seed _ h32)), hp, c2, if_pos (fun h => hd h.symm)]
end
theorem sesW_len (half other chip term : List UInt8) : (sesW half other chip term).1.length = 16 ∧ (sesW half other chip term).2.1.length = 16 := ⟨keyW_len _ _, keyW_len _ _⟩
end Go.Proofs.YtjbmmdcnccclaaaDoor
/- Sessions of messages: Same and Valid of the reference. -/
namespace Go.Proofs.YtjbmmdcnccclaaaDoor
open Go.RowKit Go.Deep

set_option maxRecDepth 100000 in
set_option maxHeartbeats 1000000 in
theorem ssame_any (va vb : Value) (a1 a2 b1 b2 : List UInt8) (n m : Int) (S S' : Nat → Prop) (w : World) (ha : SessL w S va a1 a2 n) (hb : SessL w S' vb b1 b2 m) :
    Calls Tryd.prog 21 #[va, vb] w fun e w' => e = .returned (.bool (decide (n = m ∧ a1 = b1 ∧ a2 = b2))) ∧ Below w.heap.size w w' := by
  obtain ⟨u1, u2, rfl, h1, h2⟩ := ha
  obtain ⟨t1, t2, rfl, k1, k2⟩ := hb
  obtain ⟨w1, hw1⟩ : ∃ w1, w1 = w.alloc (.cells #[u1, u2, .int .i64 n] 40) := ⟨_, rfl⟩
  obtain ⟨w2, hw2⟩ : ∃ w2, w2 = w1.alloc (.cells #[t1, t2, .int .i64 m] 40) := ⟨_, rfl⟩
  have hz1 : w1.heap.size = w.heap.size + 1 := by rw [hw1]; simp
  have hB1 : Below w.heap.size w w1 := by rw [hw1]; exact (Below.refl _ _).alloc (Nat.le_refl _) _
  have hB2 : Below w1.heap.size w1 w2 := by rw [hw2]; exact (Below.refl _ _).alloc (Nat.le_refl _) _
  have hh1 : w1.heap[w.heap.size]? = some (.cells #[u1, u2, .int .i64 n] 40 (0, 0)) := by rw [hw1]; exact heap_alloc_new _ _
  have hh2 : w2.heap[w1.heap.size]? = some (.cells #[t1, t2, .int .i64 m] 40 (0, 0)) := by rw [hw2]; exact heap_alloc_new _ _
  rw [hz1] at hh2
  have hB : Below w.heap.size w w2 := hB1.trans (hB2.mono hB1.size)
  obtain ⟨x0, x1, x2, _⟩ := sess3 ((hB2.block w.heap.size (by omega)).trans hh1)
  obtain ⟨y0, y1, y2, _⟩ := sess3 hh2
  have ol : ∀ {S : Nat → Prop} {v : Value} {l : List UInt8}, BsS w S v l → BsS w2 (fun _ => True) v l := fun h => BsS.keep h fun g _ hl => ⟨hB.block g hl, trivial⟩
  have X0 := Lib.hid x0; have X1 := Lib.hid x1; have X2 := Lib.hid x2; have Y0 := Lib.hid y0; have Y1 := Lib.hid y1; have Y2 := Lib.hid y2
  have lift : ∀ (W : World) (g o : Nat) (v : Value) (nd : Nat), W = w2.drewN nd → w2.cell? ⟨g, o, none⟩ = some v → W.cell? ⟨g, o, none⟩ = some v := fun W g o v nd e h => by subst e; exact ((below_drewN (B := g + 1) (Below.refl _ w2) nd).cell (p := ⟨g, o, none⟩) (Nat.lt_succ_self g)).trans h
  have HLI := Lib.hid lift
  have H1 := Lib.hid (ol h1); have H2 := Lib.hid (ol h2); have G1 := Lib.hid (ol k1); have G2 := Lib.hid (ol k2)
  have HB := Lib.hid hB
  have HW1 := Lib.hid hw1; have HW2 := Lib.hid hw2; have HZ1 := Lib.hid hz1
  clear h1 h2 k1 k2 ol hB1 hB2 hh1 hh2 hB hw1 hw2 hz1 lift
  obtain ⟨o1, ho1⟩ : ∃ o, decide (a1 = b1) = o := ⟨_, rfl⟩
  obtain ⟨o2, ho2⟩ : ∃ o, decide (a2 = b2) = o := ⟨_, rfl⟩
  have HO1 := Lib.hid ho1; have HO2 := Lib.hid ho2
  clear ho1 ho2
  by_cases hn : n = m
  · have HN := Lib.hid hn
    have t0 : (n == m) = true := by simp [hn]
    clear hn
    cases o1 with
    | false =>
      have R : Hid (decide (n = m ∧ a1 = b1 ∧ a2 = b2) = false) := Lib.hid (decide_eq_false fun h => of_decide_eq_false HO1.out h.2.1)
      go_enter Tryd.func21, Tryd.ntmps21
      go_upto_region 1 with fail
      rw [← HW1.out, ← HW2.out]
      go_wp2_with (go_at_call 11; refine (same_any _ _ a1 b1 _ _ w2 H1.out G1.out).mono ?_; rintro e w3 ⟨rfl, nd, hw3⟩; rw [HO1.out]; have HW3 := Lib.hid hw3; clear hw3)
      go_ret
      rw [R.out, HW3.out]
      exact ⟨rfl, below_drewN HB.out nd⟩
    | true =>
      have R : Hid (decide (n = m ∧ a1 = b1 ∧ a2 = b2) = o2) := Lib.hid (by
        rw [← HO2.out, Bool.eq_iff_iff, decide_eq_true_iff, decide_eq_true_iff]
        exact ⟨fun h => h.2.2, fun h => ⟨HN.out, of_decide_eq_true HO1.out, h⟩⟩)
      go_enter Tryd.func21, Tryd.ntmps21
      go_upto_region 1 with fail
      rw [← HW1.out, ← HW2.out]
      go_wp2_with (first
        | (go_at_call 11; refine (same_any _ _ a2 b2 _ _ w3 (BsS.keep H2.out fun g hs _ => ⟨by rw [HW3.out]; rfl, hs⟩) (BsS.keep G2.out fun g hs _ => ⟨by rw [HW3.out]; rfl, hs⟩)).mono ?_; rintro e w4 ⟨rfl, nd4, hw4⟩; rw [HO2.out]; have HW4 := Lib.hid hw4; clear hw4)
        | (go_at_call 11; refine (same_any _ _ a1 b1 _ _ w2 H1.out G1.out).mono ?_; rintro e w3 ⟨rfl, nd, hw3⟩; rw [HO1.out]; have HW3 := Lib.hid hw3; have q0 := HLI.out _ _ _ _ nd hw3 X1.out; have q1 := HLI.out _ _ _ _ nd hw3 Y1.out; clear hw3))
      go_ret
      rw [R.out, HW4.out, HW3.out]
      exact ⟨rfl, below_drewN (below_drewN HB.out nd) nd4⟩
  · have t0 : (n == m) = false := by simp [hn]
    have R : Hid (decide (n = m ∧ a1 = b1 ∧ a2 = b2) = false) := Lib.hid (decide_eq_false fun h => hn h.1)
    clear hn
    go_enter Tryd.func21, Tryd.ntmps21
    go_upto_region 1 with fail
    rw [← HW1.out, ← HW2.out]
    go_wp2_with fail
    go_ret
    rw [R.out]
    exact ⟨rfl, HB.out⟩
set_option maxRecDepth 100000 in
set_option maxHeartbeats 1000000 in
/-- Valid, of a session that is. -/
theorem svalid_good (v : Value) (k1 k2 : List UInt8) (n : Int) (S : Nat → Prop) (w : World) (h : SessL w S v k1 k2 n) (h1 : k1.length = 16) (h2 : k2.length = 16) (h3 : 0 ≤ n) (h4 : n ≤ 1099511627776) :
    Calls Tryd.prog 24 #[v] w fun e w' => e = .returned (.bool true) ∧ Below w.heap.size w w' := by
  obtain ⟨u1, u2, rfl, ha, hb⟩ := h
  obtain ⟨A, c, rfl⟩ : ∃ A c, u1 = .slice A 16 c := by obtain ⟨a, c, e, _⟩ := ha; rw [h1] at e; exact ⟨a, c, e⟩
  obtain ⟨B, d, rfl⟩ : ∃ A c, u2 = .slice A 16 c := by obtain ⟨a, c, e, _⟩ := hb; rw [h2] at e; exact ⟨a, c, e⟩
  clear ha hb h1 h2
  go_enter Tryd.func24, Tryd.ntmps24
  go_wp2_with fail
  go_ret
  exact ⟨rfl, (Below.refl _ _).alloc (Nat.le_refl _) _⟩
end Go.Proofs.YtjbmmdcnccclaaaDoor
/- Basic access: layer 20's awake. -/
namespace Go.Proofs.YtjbmmdcnccclaaaDoor
open Go.RowKit Go.Deep

def Z8 : List UInt8 := List.replicate 8 0
def O8 : List UInt8 := [1, 2, 3, 4, 5, 6, 7, 8]
theorem Z8_len : Z8.length = 8 := rfl
theorem O8_len : O8.length = 8 := rfl
/-- The world behind make([]byte, 8). -/
def wz8 (w : World) : World := w.alloc (.cells (bArr 8 fun _ => 0) 5)
theorem make8 (w : World) : (Instr.makeSlice 23 (.int .i64 8) (.int .i64 8)).run Tryd.prog w = .ok (.slice (some ⟨w.heap.size, 0, none⟩) 8 8) (wz8 w) := by kernel_rfl
theorem zero_8 (w : World) : BsS (wz8 w) (New w (wz8 w)) (.slice (some ⟨w.heap.size, 0, none⟩) 8 8) Z8 := by
  have hr : (w.alloc (.cells (bArr 8 fun _ => 0) 5)).rowIs w.heap.size 5 8 (fun j => U8 ((fun _ => 0) j)) := rowIs_bArr _ _ _ _
  exact BsS.of_row (S := New w (wz8 w)) hr (by omega) ⟨Nat.le_refl _, by unfold wz8; simp⟩
theorem zero8b (w : World) : Below w.heap.size w (wz8 w) := (Below.refl _ _).alloc (Nat.le_refl _) _
attribute [irreducible] wz8 Z8
theorem row_in {w : World} {S : Nat → Prop} {q : Nat} {l : List UInt8} {t : TypeId} {n : Nat} (hn : n = l.length) (hl : l.length ≤ 1000) (h : w.heap[q]? = some (.cells (l.map U8).toArray t (0, 0))) (hS : S q) : BsS w S (.slice (some ⟨q, 0, none⟩) n n) l := by
  subst hn
  refine ⟨_, _, rfl, Nat.le_refl _, by omega, by omega, fun _ => ⟨q, 0, rfl, hS, fun j hj => ?_⟩⟩
  rw [Nat.zero_add, cell_of_row _ _ _ _ _ _ h]
  exact (List.getElem?_toArray ..).trans (mapU8_get l j hj)
theorem o8_row (w : World) : BsS (w.alloc (.cells (O8.map U8).toArray 5)) (New w (w.alloc (.cells (O8.map U8).toArray 5))) (.slice (some ⟨w.heap.size, 0, none⟩) 8 8) O8 :=
  row_in rfl (by simp [O8]) (heap_alloc_new _ _) ⟨Nat.le_refl _, by simp⟩
/-- The row of a session that nobody has filled. -/
def ZRow (w : World) (q : Nat) : Prop := w.heap[q]? = some (.cells #[.slice none 0 0, .slice none 0 0, .int .i64 0] 40 (0, 0))
/-- Nothing has changed but empty sessions above w0. -/
structure RZ (w0 w1 w2 : World) : Prop where
  size : w1.heap.size ≤ w2.heap.size
  at_ : ∀ k, k < w1.heap.size → w2.heap[k]? = w1.heap[k]? ∨ ZRow w1 k
theorem RZ.of {w0 w1 w2 : World} (h : Below w1.heap.size w1 w2) : RZ w0 w1 w2 := ⟨h.size, fun k hk => .inl (h.block k hk)⟩
theorem RZ.refl {w0 w1 : World} : RZ w0 w1 w1 := ⟨Nat.le_refl _, fun _ _ => .inl rfl⟩
theorem set3_size (w : World) (g : Nat) (a b c : Value) : (set3 w g a b c).heap.size = w.heap.size := by simp [set3]
theorem RZ.set {w0 w1 : World} {q : Nat} (hq0 : w0.heap.size ≤ q) (hrow : ZRow w1 q) (a b c : Value) : RZ w0 w1 (set3 w1 q a b c) := ⟨by rw [set3_size]; exact Nat.le_refl _, fun k _ => by
  by_cases h : k = q
  · subst h; exact .inr hrow
  · exact .inl (set3_other h)⟩
theorem RZ.row {w0 w1 w2 : World} (h : RZ w0 w1 w2) {q : Nat} {a b c : Value} {t : TypeId} {f : Nat × Nat} (hr : w1.heap[q]? = some (.cells #[a, b, c] t f)) (hn : a ≠ .slice none 0 0) : w2.heap[q]? = some (.cells #[a, b, c] t f) := by
  rcases h.at_ q (Array.getElem?_eq_some_iff.1 hr).1 with e | e
  · rw [e, hr]
  · unfold ZRow at e
    rw [hr] at e
    simp at e
    exact absurd e.1.1 hn
theorem BsS.rz {w0 w1 w2 : World} {v : Value} {l : List UInt8} {W : World} (h : BsS w1 (New W w1) v l) (hr : RZ w0 w1 w2) : BsS w2 (New W w2) v l := by
  obtain ⟨a, c, hv, h1, h2, h3, h4⟩ := h
  refine ⟨a, c, hv, h1, h2, h3, fun h0 => ?_⟩
  obtain ⟨b, off, e, hS, hc⟩ := h4 h0
  refine ⟨b, off, e, ⟨hS.1, Nat.lt_of_lt_of_le hS.2 hr.size⟩, fun j hj => ?_⟩
  rcases hr.at_ b hS.2 with hb | hb
  · rw [World.cell?_of_block (a := ⟨b, off + j, none⟩) hb]; exact hc j hj
  · exfalso
    have hc0 := hc j hj
    obtain ⟨z0, z1, z2, _⟩ := sess3 hb
    rw [cell_of_row _ _ _ _ _ _ hb] at hc0
    match hk : off + j with
    | 0 => rw [hk] at hc0; simp [U8] at hc0
    | 1 => rw [hk] at hc0; simp [U8] at hc0
    | 2 => rw [hk] at hc0; simp [U8] at hc0
    | n + 3 => rw [hk] at hc0; simp at hc0
/-- What holds while a region that takes a session in runs: a new session (slot a) is empty until it is filled (step s). -/
def JZ (w0 : World) (a s : Nat) (L : Nat → Bool) (v : Nat → Value) (w1 : World) : Prop :=
  Below w0.heap.size w0 w1 ∧ (L s = false → L a = true → ∃ q, v a = .pointer (some ⟨q, 0, none⟩) ∧ w0.heap.size ≤ q ∧ q < w1.heap.size ∧ ZRow w1 q)
theorem JZ.start {w0 : World} {a s : Nat} {v : Nat → Value} : JZ w0 a s (fun _ => false) v w0.drew := ⟨(Below.refl _ _).drew, fun _ h => by cases h⟩
theorem JZ.step {w0 w1 w2 : World} {a s : Nat} {L : Nat → Bool} {v : Nat → Value} {y : Value} (h : JZ w0 a s L v w1) (hb : Below w1.heap.size w1 w2) (i : Nat) (ha : i ≠ a) (hs : i ≠ s) : JZ w0 a s (setRG L i) (updRG v i y) w2 :=
  ⟨h.1.trans (hb.mono h.1.size), fun h1 h2 => by
    simp only [setRG] at h1 h2
    rw [if_neg (Ne.symm hs)] at h1
    rw [if_neg (Ne.symm ha)] at h2
    obtain ⟨q, e, hq, hl, hz⟩ := h.2 h1 h2
    exact ⟨q, by simp only [updRG]; rw [if_neg (Ne.symm ha)]; exact e, hq, Nat.lt_of_lt_of_le hl hb.size, (hb.block q hl).trans hz⟩⟩
theorem JZ.alloc {w0 w1 : World} {a s : Nat} {L : Nat → Bool} {v : Nat → Value} (h : JZ w0 a s L v w1) (hs : a ≠ s) : JZ w0 a s (setRG L a) (updRG v a (.pointer (some ⟨w1.heap.size, 0, none⟩))) (w1.alloc (.cells #[.slice none 0 0, .slice none 0 0, .int .i64 0] 40)) :=
  ⟨h.1.alloc h.1.size _, fun _ _ => ⟨w1.heap.size, by simp [updRG], h.1.size, by simp, heap_alloc_new _ _⟩⟩
theorem JZ.store {w0 w1 : World} {a s q : Nat} {L : Nat → Bool} {v : Nat → Value} {y b c d : Value} (h : JZ w0 a s L v w1) (hq : w0.heap.size ≤ q) : JZ w0 a s (setRG L s) (updRG v s y) (set3 w1 q b c d) :=
  ⟨set3_below h.1 hq, fun h1 => by simp [setRG] at h1⟩
set_option maxRecDepth 100000 in
set_option maxHeartbeats 4000000 in
theorem awakeB_any (w : World) (hK : KD w) : Calls Tryd.prog 10 #[] w fun e w' => e = .returned (.bool true) ∧ Below w.heap.size w w' := by
  have hmx : Tryd.prog.follows .mixedOrders = true := by kernel_rfl
  obtain ⟨seed, hseed⟩ : ∃ s, s = seedW ⟨#[120]⟩ := ⟨_, rfl⟩
  have HSE := Lib.hid hseed
  have h16 : seed.length = 16 := by rw [hseed]; exact seedW_len _
  have HAG := Lib.hid (ask_good h16 Z8_len O8_len Z16_len)
  have HML := Lib.hid (ask_len h16 Z8_len O8_len Z16_len)
  have HAN := Lib.hid (answer_good h16 Z8_len O8_len Z16_len Z16_len)
  have HFI := Lib.hid (finish_good h16 Z8_len O8_len Z16_len Z16_len)
  have HRL : Hid ((msgW seed (Z8 ++ O8 ++ Z16)).length = 40) := Lib.hid (msgW_len seed _ (three_len Z8_len O8_len Z16_len))
  have HK := Lib.hid hK
  clear hseed h16 hK
  go_enter Tryd.func10, Tryd.ntmps10
  go_upto_region 2 with (go_at_call 12; refine (seed_any ⟨#[120]⟩ (by decide) w HK.out).mono ?_; rintro e w1r ⟨vs, rfl, hs, hb⟩; rw [← HSE.out] at hs; obtain ⟨As, cs, hvs⟩ : ∃ A c, vs = .slice A 16 c := (by obtain ⟨a, c, e, _⟩ := hs; rw [HSE.out, seedW_len] at e; exact ⟨a, c, e⟩); subst hvs; have HS1 : Hid (Bs w1r w1r.heap.size (.slice As 16 cs) seed) := Lib.hid (BsS.keep hs fun g hs _ => ⟨rfl, hs.2⟩); have HBW1 := Lib.hid hb; have HK1 := Lib.hid (HK.out.below hb HK.out.lt); clear hs hb)
  refine wp_region_rg 10 [some 11, some 12, some 13, some 14, some 15, some 10, some 16, some 17, some 2, some 3] [[], [], [], [], [0, 1, 2, 3], [0, 1, 2, 3, 4], [0, 1, 2, 3, 4, 5], [0, 1, 2, 3, 4, 5], [0, 1, 2, 3, 4, 5, 6], [0, 1, 2, 3, 4, 5, 6, 7, 8]]
    (fun _ _ w1 => Below w1r.heap.size w1r w1) (fun w1 w2 => Below w1.heap.size w1 w2)
    [fun v _ => v 0 = .slice As 16 cs,
     fun v w1 => ∃ q, v 1 = .slice (some ⟨q, 0, none⟩) 8 8 ∧ BsS w1 (New w1r w1) (.slice (some ⟨q, 0, none⟩) 8 8) Z8,
     fun v w1 => ∃ q, v 2 = .slice (some ⟨q, 0, none⟩) 8 8 ∧ BsS w1 (New w1r w1) (.slice (some ⟨q, 0, none⟩) 8 8) O8,
     fun v w1 => ∃ q, v 3 = .slice (some ⟨q, 0, none⟩) 16 16 ∧ BsS w1 (New w1r w1) (.slice (some ⟨q, 0, none⟩) 16 16) Z16,
     fun v w1 => ∃ A c, v 4 = .tuple #[.slice A 40 c, .int .i64 0] ∧ BsS w1 (New w1r w1) (.slice A 40 c) (askL seed Z8 O8 Z16),
     fun v w1 => ∃ A c, v 5 = .tuple #[.slice A 40 c, .int .i64 0] ∧ BsS w1 (New w1r w1) (.slice A 40 c) (askL seed Z8 O8 Z16),
     fun v w1 => ∃ A c, v 6 = .slice A 40 c ∧ BsS w1 (New w1r w1) (.slice A 40 c) (askL seed Z8 O8 Z16),
     fun v _ => v 7 = .int .i64 0,
     fun v w1 => ∃ A c, v 8 = .slice A 40 c ∧ BsS w1 (New w1r w1) (.slice A 40 c) (askL seed Z8 O8 Z16),
     fun v _ => v 9 = .int .i64 0]
    (by kernel_rfl) (by kernel_rfl) (fun _ => (Below.refl _ _).drew) ?st ?steps ?tail
  case st =>
    exact (.cons (fun _ _ _ _ _ _ h => h) (.cons (fun _ _ _ _ _ hr ⟨q, e, h⟩ => ⟨q, e, BsS.keep h fun g hs hl => ⟨hr.block g hl, hs.1, Nat.lt_of_lt_of_le hs.2 hr.size⟩⟩) (.cons (fun _ _ _ _ _ hr ⟨q, e, h⟩ => ⟨q, e, BsS.keep h fun g hs hl => ⟨hr.block g hl, hs.1, Nat.lt_of_lt_of_le hs.2 hr.size⟩⟩) (.cons (fun _ _ _ _ _ hr ⟨q, e, h⟩ => ⟨q, e, BsS.keep h fun g hs hl => ⟨hr.block g hl, hs.1, Nat.lt_of_lt_of_le hs.2 hr.size⟩⟩) (.cons (fun _ _ _ _ _ hr ⟨A, c, e, h⟩ => ⟨A, c, e, BsS.keep h fun g hs hl => ⟨hr.block g hl, hs.1, Nat.lt_of_lt_of_le hs.2 hr.size⟩⟩) (.cons (fun _ _ _ _ _ hr ⟨A, c, e, h⟩ => ⟨A, c, e, BsS.keep h fun g hs hl => ⟨hr.block g hl, hs.1, Nat.lt_of_lt_of_le hs.2 hr.size⟩⟩) (.cons (fun _ _ _ _ _ hr ⟨A, c, e, h⟩ => ⟨A, c, e, BsS.keep h fun g hs hl => ⟨hr.block g hl, hs.1, Nat.lt_of_lt_of_le hs.2 hr.size⟩⟩) (.cons (fun _ _ _ _ _ _ h => h) (.cons (fun _ _ _ _ _ hr ⟨A, c, e, h⟩ => ⟨A, c, e, BsS.keep h fun g hs hl => ⟨hr.block g hl, hs.1, Nat.lt_of_lt_of_le hs.2 hr.size⟩⟩) (.cons (fun _ _ _ _ _ _ h => h) .nil))))))))))
  case steps =>
    simp only [List.take_succ_cons, List.take_zero]
    refine (.cons ?_ (.cons ?_ (.cons ?_ (.cons ?_ (.cons ?_ (.cons ?_ (.cons ?_ (.cons ?_ (.cons ?_ (.cons ?_ .nil))))))))))
    all_goals (intro L v w1 hJ hL hA hF K hK; simp only [fillRG, Act.put, Nat.zero_add, Nat.reduceAdd, List.setIfInBounds_toArray, List.set_cons_zero, List.set_cons_succ] at hK ⊢)
    · go_simp
      refine hK _ _ hJ (Below.refl _ _) ?_
      first | exact rfl | exact val_mod _
    · have Hm := make8
      go_simp
      exact hK _ _ (hJ.trans ((zero8b w1).mono hJ.size)) (zero8b w1) ⟨_, rfl, BsS.keep (zero_8 w1) fun g hs _ => ⟨rfl, Nat.le_trans hJ.size hs.1, hs.2⟩⟩
    · go_simp
      exact hK _ _ (hJ.trans (((Below.refl _ _).alloc (Nat.le_refl _) _).mono hJ.size)) ((Below.refl _ _).alloc (Nat.le_refl _) _) ⟨_, rfl, BsS.keep (o8_row w1) fun g hs _ => ⟨rfl, Nat.le_trans hJ.size hs.1, hs.2⟩⟩
    · have Hm := make16
      go_simp
      exact hK _ _ (hJ.trans ((zero16b w1).mono hJ.size)) (zero16b w1) ⟨_, rfl, BsS.keep (zero_z w1) fun g hs _ => ⟨rfl, Nat.le_trans hJ.size hs.1, hs.2⟩⟩
    · have e0 : v 0 = .slice As 16 cs := hF 0 (hA 0 (by simp))
      simp only [e0] at hK
      obtain ⟨q1, e1, hz1⟩ : ∃ q, v 1 = .slice (some ⟨q, 0, none⟩) 8 8 ∧ BsS w1 (New w1r w1) (.slice (some ⟨q, 0, none⟩) 8 8) Z8 := hF 1 (hA 1 (by simp))
      obtain ⟨q2, e2, hz2⟩ : ∃ q, v 2 = .slice (some ⟨q, 0, none⟩) 8 8 ∧ BsS w1 (New w1r w1) (.slice (some ⟨q, 0, none⟩) 8 8) O8 := hF 2 (hA 2 (by simp))
      obtain ⟨q3, e3, hz3⟩ : ∃ q, v 3 = .slice (some ⟨q, 0, none⟩) 16 16 ∧ BsS w1 (New w1r w1) (.slice (some ⟨q, 0, none⟩) 16 16) Z16 := hF 3 (hA 3 (by simp))
      simp only [e1, e2, e3] at hK
      go_simp
      refine (ask_any _ _ _ _ seed Z8 O8 Z16 w1 (HK1.out.below hJ HK1.out.lt) (HS1.out.lift hJ) (BsS.keep hz1 fun g hs _ => ⟨rfl, hs.2⟩) (BsS.keep hz2 fun g hs _ => ⟨rfl, hs.2⟩) (BsS.keep hz3 fun g hs _ => ⟨rfl, hs.2⟩)).mono ?_
      rintro e w5 ⟨v5, rfl, ho, hb⟩
      rw [HAG.out.1]
      obtain ⟨A5, c5, hv5⟩ : ∃ A c, v5 = .slice A 40 c := (by obtain ⟨a, c, e, _⟩ := ho; rw [HML.out] at e; exact ⟨a, c, e⟩)
      subst hv5
      exact hK _ _ (hJ.trans (hb.mono hJ.size)) hb ⟨A5, c5, rfl, ho.keep fun g hs _ => ⟨rfl, Nat.le_trans hJ.size hs.1, hs.2⟩⟩
    · obtain ⟨A, c, ei, hh⟩ : ∃ A c, v 4 = .tuple #[.slice A 40 c, .int .i64 0] ∧ BsS w1 (New w1r w1) (.slice A 40 c) (askL seed Z8 O8 Z16) := hF 4 (hA 4 (by simp))
      simp only [ei] at hK
      go_simp
      exact hK _ _ hJ (Below.refl _ _) ⟨A, c, rfl, hh⟩
    · obtain ⟨A, c, ei, hh⟩ : ∃ A c, v 5 = .tuple #[.slice A 40 c, .int .i64 0] ∧ BsS w1 (New w1r w1) (.slice A 40 c) (askL seed Z8 O8 Z16) := hF 5 (hA 5 (by simp))
      simp only [ei] at hK
      go_simp
      exact hK _ _ hJ (Below.refl _ _) ⟨A, c, rfl, hh⟩
    · obtain ⟨A, c, ei, hh⟩ : ∃ A c, v 5 = .tuple #[.slice A 40 c, .int .i64 0] ∧ BsS w1 (New w1r w1) (.slice A 40 c) (askL seed Z8 O8 Z16) := hF 5 (hA 5 (by simp))
      simp only [ei] at hK
      go_simp
      exact hK _ _ hJ (Below.refl _ _) rfl
    · obtain ⟨A, c, ei, hh⟩ : ∃ A c, v 6 = .slice A 40 c ∧ BsS w1 (New w1r w1) (.slice A 40 c) (askL seed Z8 O8 Z16) := hF 6 (hA 6 (by simp))
      simp only [ei] at hK
      go_simp
      exact hK _ _ hJ (Below.refl _ _) ⟨A, c, rfl, hh⟩
    · have e7 : v 7 = .int .i64 0 := hF 7 (hA 7 (by simp))
      simp only [e7] at hK
      go_simp
      refine hK _ _ hJ (Below.refl _ _) ?_
      first | exact rfl | exact val_mod _
  case tail =>
    intro v w1 hJ hF
    have e0 : v 0 = .slice As 16 cs := hF 0 (by simp)
    have e7 : v 7 = .int .i64 0 := hF 7 (by simp)
    have e9 : v 9 = .int .i64 0 := hF 9 (by simp)
    obtain ⟨Am, cm, e8, hm⟩ : ∃ A c, v 8 = .slice A 40 c ∧ BsS w1 (New w1r w1) (.slice A 40 c) (askL seed Z8 O8 Z16) := hF 8 (by simp)
    simp only [List.drop_succ_cons, List.drop_zero, fillRG, Act.put, Nat.zero_add, Nat.reduceAdd, List.setIfInBounds_toArray, List.set_cons_zero, List.set_cons_succ]
    simp only [e0, e7, e8, e9]
    clear e0 e7 e8 e9
    obtain ⟨w2r, hw2⟩ : ∃ w2r, w2r = w1 := ⟨_, rfl⟩
    rw [← hw2] at hJ hm ⊢
    have HBW2 := Lib.hid (HBW1.out.trans (hJ.mono HBW1.out.size))
    have HK2 := Lib.hid (HK1.out.below hJ HK1.out.lt); have HS2 := Lib.hid (HS1.out.lift hJ)
    have HM2 : Hid (Bs w2r w2r.heap.size (.slice Am 40 cm) (askL seed Z8 O8 Z16)) := Lib.hid (BsS.keep hm fun g hs _ => ⟨rfl, hs.2⟩)
    clear hJ hF hm hw2
    go_upto_region 3 with fail
    refine wp_region_rg 13 [some 19, some 20, some 21, some 22, some 23, some 18, some 24, some 25, some 26, some 5, some 4, none, some 6] [[], [], [], [], [0, 1, 2, 3], [0, 1, 2, 3, 4], [0, 1, 2, 3, 4, 5], [0, 1, 2, 3, 4, 5], [0, 1, 2, 3, 4, 5], [], [0, 1, 2, 3, 4, 5, 6, 9], [0, 1, 2, 3, 4, 5, 6, 7, 9, 10], [0, 1, 2, 3, 4, 5, 6, 7, 8, 9, 10, 11]]
      (JZ w2r 9 11) (RZ w2r)
      [fun v _ => v 0 = .slice As 16 cs,
       fun v w1 => ∃ q, v 1 = .slice (some ⟨q, 0, none⟩) 8 8 ∧ BsS w1 (New w2r w1) (.slice (some ⟨q, 0, none⟩) 8 8) Z8,
       fun v w1 => ∃ q, v 2 = .slice (some ⟨q, 0, none⟩) 16 16 ∧ BsS w1 (New w2r w1) (.slice (some ⟨q, 0, none⟩) 16 16) Z16,
       fun v _ => v 3 = .slice Am 40 cm,
       fun v w1 => ∃ A c X1 x1 X2 x2, v 4 = .tuple #[.slice A 40 c, .agg #[.slice X1 16 x1, .slice X2 16 x2, .int .i64 (numS Z8 O8)], .int .i64 0] ∧ BsS w1 (New w2r w1) (.slice A 40 c) (msgW seed (Z8 ++ O8 ++ Z16)) ∧ BsS w1 (New w2r w1) (.slice X1 16 x1) (keyW (xorL Z16 Z16) 1) ∧ BsS w1 (New w2r w1) (.slice X2 16 x2) (keyW (xorL Z16 Z16) 2),
       fun v w1 => ∃ A c X1 x1 X2 x2, v 5 = .tuple #[.slice A 40 c, .agg #[.slice X1 16 x1, .slice X2 16 x2, .int .i64 (numS Z8 O8)], .int .i64 0] ∧ BsS w1 (New w2r w1) (.slice A 40 c) (msgW seed (Z8 ++ O8 ++ Z16)) ∧ BsS w1 (New w2r w1) (.slice X1 16 x1) (keyW (xorL Z16 Z16) 1) ∧ BsS w1 (New w2r w1) (.slice X2 16 x2) (keyW (xorL Z16 Z16) 2),
       fun v w1 => ∃ A c, v 6 = .slice A 40 c ∧ BsS w1 (New w2r w1) (.slice A 40 c) (msgW seed (Z8 ++ O8 ++ Z16)),
       fun v w1 => ∃ X1 x1 X2 x2, v 7 = .agg #[.slice X1 16 x1, .slice X2 16 x2, .int .i64 (numS Z8 O8)] ∧ BsS w1 (New w2r w1) (.slice X1 16 x1) (keyW (xorL Z16 Z16) 1) ∧ BsS w1 (New w2r w1) (.slice X2 16 x2) (keyW (xorL Z16 Z16) 2),
       fun v _ => v 8 = .int .i64 0,
       fun v w1 => True,
       fun v w1 => ∃ A c, v 10 = .slice A 40 c ∧ BsS w1 (New w2r w1) (.slice A 40 c) (msgW seed (Z8 ++ O8 ++ Z16)),
       fun v w1 => ∃ q X1 x1 X2 x2, v 9 = .pointer (some ⟨q, 0, none⟩) ∧ w2r.heap.size ≤ q ∧ w1.heap[q]? = some (.cells #[.slice X1 16 x1, .slice X2 16 x2, .int .i64 (numS Z8 O8)] 40 (0, 0)) ∧ BsS w1 (New w2r w1) (.slice X1 16 x1) (keyW (xorL Z16 Z16) 1) ∧ BsS w1 (New w2r w1) (.slice X2 16 x2) (keyW (xorL Z16 Z16) 2),
       fun v _ => v 12 = .int .i64 0]
      (by kernel_rfl) (by kernel_rfl) (fun _ => JZ.start) ?st ?steps ?tail
    case st =>
      exact (.cons (fun _ _ _ _ _ _ h => h) (.cons (fun _ _ _ _ _ hr ⟨q, e, h⟩ => ⟨q, e, h.rz hr⟩) (.cons (fun _ _ _ _ _ hr ⟨q, e, h⟩ => ⟨q, e, h.rz hr⟩) (.cons (fun _ _ _ _ _ _ h => h) (.cons (fun _ _ _ _ _ hr ⟨A, c, X1, x1, X2, x2, e, h1, h2, h3⟩ => ⟨A, c, X1, x1, X2, x2, e, h1.rz hr, h2.rz hr, h3.rz hr⟩) (.cons (fun _ _ _ _ _ hr ⟨A, c, X1, x1, X2, x2, e, h1, h2, h3⟩ => ⟨A, c, X1, x1, X2, x2, e, h1.rz hr, h2.rz hr, h3.rz hr⟩) (.cons (fun _ _ _ _ _ hr ⟨A, c, e, h⟩ => ⟨A, c, e, h.rz hr⟩) (.cons (fun _ _ _ _ _ hr ⟨X1, x1, X2, x2, e, h1, h2⟩ => ⟨X1, x1, X2, x2, e, h1.rz hr, h2.rz hr⟩) (.cons (fun _ _ _ _ _ _ h => h) (.cons (fun _ _ _ _ _ _ h => h) (.cons (fun _ _ _ _ _ hr ⟨A, c, e, h⟩ => ⟨A, c, e, h.rz hr⟩) (.cons (fun _ _ _ _ _ hr ⟨q, X1, x1, X2, x2, e, hq, hw, h1, h2⟩ => ⟨q, X1, x1, X2, x2, e, hq, hr.row hw (by simp), h1.rz hr, h2.rz hr⟩) (.cons (fun _ _ _ _ _ _ h => h) .nil)))))))))))))
    case steps =>
      simp only [List.take_succ_cons, List.take_zero]
      refine (.cons ?_ (.cons ?_ (.cons ?_ (.cons ?_ (.cons ?_ (.cons ?_ (.cons ?_ (.cons ?_ (.cons ?_ (.cons ?_ (.cons ?_ (.cons ?_ (.cons ?_ .nil)))))))))))))
      all_goals (intro L v w1 hJ hL hA hF K hK; simp only [fillRG, Act.put, Nat.zero_add, Nat.reduceAdd, List.setIfInBounds_toArray, List.set_cons_zero, List.set_cons_succ] at hK ⊢)
      · go_simp
        refine hK _ _ (hJ.step (Below.refl _ _) 0 (by decide) (by decide)) RZ.refl ?_
        first | exact rfl | exact val_mod _
      · have Hm := make8
        go_simp
        exact hK _ _ (hJ.step (zero8b w1) 1 (by decide) (by decide)) (RZ.of (zero8b w1)) ⟨_, rfl, BsS.keep (zero_8 w1) fun g hs _ => ⟨rfl, Nat.le_trans hJ.1.size hs.1, hs.2⟩⟩
      · have Hm := make16
        go_simp
        exact hK _ _ (hJ.step (zero16b w1) 2 (by decide) (by decide)) (RZ.of (zero16b w1)) ⟨_, rfl, BsS.keep (zero_z w1) fun g hs _ => ⟨rfl, Nat.le_trans hJ.1.size hs.1, hs.2⟩⟩
      · go_simp
        refine hK _ _ (hJ.step (Below.refl _ _) 3 (by decide) (by decide)) RZ.refl ?_
        first | exact rfl | exact val_mod _
      · have e0 : v 0 = .slice As 16 cs := hF 0 (hA 0 (by simp))
        have e3 : v 3 = .slice Am 40 cm := hF 3 (hA 3 (by simp))
        simp only [e0, e3] at hK
        obtain ⟨q1, e1, hz1⟩ : ∃ q, v 1 = .slice (some ⟨q, 0, none⟩) 8 8 ∧ BsS w1 (New w2r w1) (.slice (some ⟨q, 0, none⟩) 8 8) Z8 := hF 1 (hA 1 (by simp))
        obtain ⟨q2, e2, hz2⟩ : ∃ q, v 2 = .slice (some ⟨q, 0, none⟩) 16 16 ∧ BsS w1 (New w2r w1) (.slice (some ⟨q, 0, none⟩) 16 16) Z16 := hF 2 (hA 2 (by simp))
        simp only [e1, e2] at hK
        go_simp
        refine (answer_any _ _ _ _ seed Z8 Z16 (askL seed Z8 O8 Z16) w1 (HK2.out.below hJ.1 HK2.out.lt) (HS2.out.lift hJ.1) (BsS.keep hz1 fun g hs _ => ⟨rfl, hs.2⟩) (BsS.keep hz2 fun g hs _ => ⟨rfl, hs.2⟩) (HM2.out.lift hJ.1)).mono ?_
        rw [HAN.out]
        rintro e w5 ⟨v5, s5, rfl, ho, ⟨y1, y2, rfl, h1, h2⟩, hb⟩
        obtain ⟨A5, c5, hv5⟩ : ∃ A c, v5 = .slice A 40 c := (by obtain ⟨a, c, e, _⟩ := ho; rw [HRL.out] at e; exact ⟨a, c, e⟩)
        obtain ⟨X1, x1, hv1⟩ : ∃ A c, y1 = .slice A 16 c := (by obtain ⟨a, c, e, _⟩ := h1; rw [(sesW_len _ _ _ _).1] at e; exact ⟨a, c, e⟩)
        obtain ⟨X2, x2, hv2⟩ : ∃ A c, y2 = .slice A 16 c := (by obtain ⟨a, c, e, _⟩ := h2; rw [(sesW_len _ _ _ _).2] at e; exact ⟨a, c, e⟩)
        subst hv5; subst hv1; subst hv2
        exact hK _ _ (hJ.step hb 4 (by decide) (by decide)) (RZ.of hb) ⟨A5, c5, X1, x1, X2, x2, rfl, ho.keep fun g hs _ => ⟨rfl, Nat.le_trans hJ.1.size hs.1, hs.2⟩, h1.keep fun g hs _ => ⟨rfl, Nat.le_trans hJ.1.size hs.1, hs.2⟩, h2.keep fun g hs _ => ⟨rfl, Nat.le_trans hJ.1.size hs.1, hs.2⟩⟩
      · obtain ⟨A, c, X1, x1, X2, x2, ei, h1, h2, h3⟩ : ∃ A c X1 x1 X2 x2, v 4 = .tuple #[.slice A 40 c, .agg #[.slice X1 16 x1, .slice X2 16 x2, .int .i64 (numS Z8 O8)], .int .i64 0] ∧ BsS w1 (New w2r w1) (.slice A 40 c) (msgW seed (Z8 ++ O8 ++ Z16)) ∧ BsS w1 (New w2r w1) (.slice X1 16 x1) (keyW (xorL Z16 Z16) 1) ∧ BsS w1 (New w2r w1) (.slice X2 16 x2) (keyW (xorL Z16 Z16) 2) := hF 4 (hA 4 (by simp))
        simp only [ei] at hK
        go_simp
        exact hK _ _ (hJ.step (Below.refl _ _) 5 (by decide) (by decide)) RZ.refl ⟨A, c, X1, x1, X2, x2, rfl, h1, h2, h3⟩
      · obtain ⟨A, c, X1, x1, X2, x2, ei, h1, h2, h3⟩ : ∃ A c X1 x1 X2 x2, v 5 = .tuple #[.slice A 40 c, .agg #[.slice X1 16 x1, .slice X2 16 x2, .int .i64 (numS Z8 O8)], .int .i64 0] ∧ BsS w1 (New w2r w1) (.slice A 40 c) (msgW seed (Z8 ++ O8 ++ Z16)) ∧ BsS w1 (New w2r w1) (.slice X1 16 x1) (keyW (xorL Z16 Z16) 1) ∧ BsS w1 (New w2r w1) (.slice X2 16 x2) (keyW (xorL Z16 Z16) 2) := hF 5 (hA 5 (by simp))
        simp only [ei] at hK
        go_simp
        exact hK _ _ (hJ.step (Below.refl _ _) 6 (by decide) (by decide)) RZ.refl ⟨A, c, rfl, h1⟩
      · obtain ⟨A, c, X1, x1, X2, x2, ei, h1, h2, h3⟩ : ∃ A c X1 x1 X2 x2, v 5 = .tuple #[.slice A 40 c, .agg #[.slice X1 16 x1, .slice X2 16 x2, .int .i64 (numS Z8 O8)], .int .i64 0] ∧ BsS w1 (New w2r w1) (.slice A 40 c) (msgW seed (Z8 ++ O8 ++ Z16)) ∧ BsS w1 (New w2r w1) (.slice X1 16 x1) (keyW (xorL Z16 Z16) 1) ∧ BsS w1 (New w2r w1) (.slice X2 16 x2) (keyW (xorL Z16 Z16) 2) := hF 5 (hA 5 (by simp))
        simp only [ei] at hK
        go_simp
        exact hK _ _ (hJ.step (Below.refl _ _) 7 (by decide) (by decide)) RZ.refl ⟨X1, x1, X2, x2, rfl, h2, h3⟩
      · obtain ⟨A, c, X1, x1, X2, x2, ei, h1, h2, h3⟩ : ∃ A c X1 x1 X2 x2, v 5 = .tuple #[.slice A 40 c, .agg #[.slice X1 16 x1, .slice X2 16 x2, .int .i64 (numS Z8 O8)], .int .i64 0] ∧ BsS w1 (New w2r w1) (.slice A 40 c) (msgW seed (Z8 ++ O8 ++ Z16)) ∧ BsS w1 (New w2r w1) (.slice X1 16 x1) (keyW (xorL Z16 Z16) 1) ∧ BsS w1 (New w2r w1) (.slice X2 16 x2) (keyW (xorL Z16 Z16) 2) := hF 5 (hA 5 (by simp))
        simp only [ei] at hK
        go_simp
        exact hK _ _ (hJ.step (Below.refl _ _) 8 (by decide) (by decide)) RZ.refl rfl
      · go_simp
        exact hK _ _ (hJ.alloc (by decide)) (RZ.of ((Below.refl _ _).alloc (Nat.le_refl _) _)) trivial
      · obtain ⟨A, c, ei, h1⟩ : ∃ A c, v 6 = .slice A 40 c ∧ BsS w1 (New w2r w1) (.slice A 40 c) (msgW seed (Z8 ++ O8 ++ Z16)) := hF 6 (hA 6 (by simp))
        simp only [ei] at hK
        go_simp
        exact hK _ _ (hJ.step (Below.refl _ _) 10 (by decide) (by decide)) RZ.refl ⟨A, c, rfl, h1⟩
      · obtain ⟨q, e9, hq0, hq1, hrow⟩ := hJ.2 hL (hA 9 (by simp))
        obtain ⟨X1, x1, X2, x2, e7, hx1, hx2⟩ : ∃ X1 x1 X2 x2, v 7 = .agg #[.slice X1 16 x1, .slice X2 16 x2, .int .i64 (numS Z8 O8)] ∧ BsS w1 (New w2r w1) (.slice X1 16 x1) (keyW (xorL Z16 Z16) 1) ∧ BsS w1 (New w2r w1) (.slice X2 16 x2) (keyW (xorL Z16 Z16) 2) := hF 7 (hA 7 (by simp))
        simp only [e9, e7] at hK ⊢
        obtain ⟨z0, z1, z2, zf⟩ := sess3 hrow
        have zf0 := zf 0; have zf1 := zf 1; have zf2 := zf 2
        clear zf
        go_simp
        exact hK undef _ (hJ.store hq0) (RZ.set hq0 hrow _ _ _) ⟨q, X1, x1, X2, x2, e9, hq0, set3_row _ _ _ hrow, hx1.rz (RZ.set hq0 hrow _ _ _), hx2.rz (RZ.set hq0 hrow _ _ _)⟩
      · have e8 : v 8 = .int .i64 0 := hF 8 (hA 8 (by simp))
        simp only [e8] at hK
        go_simp
        refine hK _ _ (hJ.step (Below.refl _ _) 12 (by decide) (by decide)) RZ.refl ?_
        first | exact rfl | exact val_mod _
    case tail =>
      intro v w1 hJ hF
      have e0 : v 0 = .slice As 16 cs := hF 0 (by simp)
      have e3 : v 3 = .slice Am 40 cm := hF 3 (by simp)
      have e8 : v 8 = .int .i64 0 := hF 8 (by simp)
      have e12 : v 12 = .int .i64 0 := hF 12 (by simp)
      obtain ⟨Ar, cr, e10, hr10⟩ : ∃ A c, v 10 = .slice A 40 c ∧ BsS w1 (New w2r w1) (.slice A 40 c) (msgW seed (Z8 ++ O8 ++ Z16)) := hF 10 (by simp)
      obtain ⟨q5, X1, x1, X2, x2, e9, hq5, hrow5, hx1, hx2⟩ : ∃ q X1 x1 X2 x2, v 9 = .pointer (some ⟨q, 0, none⟩) ∧ w2r.heap.size ≤ q ∧ w1.heap[q]? = some (.cells #[.slice X1 16 x1, .slice X2 16 x2, .int .i64 (numS Z8 O8)] 40 (0, 0)) ∧ BsS w1 (New w2r w1) (.slice X1 16 x1) (keyW (xorL Z16 Z16) 1) ∧ BsS w1 (New w2r w1) (.slice X2 16 x2) (keyW (xorL Z16 Z16) 2) := hF 11 (by simp)
      simp only [List.drop_succ_cons, List.drop_zero, fillRG, Act.put, Nat.zero_add, Nat.reduceAdd, List.setIfInBounds_toArray, List.set_cons_zero, List.set_cons_succ]
      simp only [e0, e3, e8, e9, e10, e12]
      clear e0 e3 e8 e9 e10 e12
      obtain ⟨w3r, hw3⟩ : ∃ w3r, w3r = w1 := ⟨_, rfl⟩
      rw [← hw3] at hJ hr10 hrow5 hx1 hx2 ⊢
      have HROW5 := Lib.hid hrow5; have HX1 := Lib.hid hx1; have HX2 := Lib.hid hx2
      have HBW3 := Lib.hid (HBW2.out.trans (hJ.1.mono HBW2.out.size))
      have HK3 := Lib.hid (HK2.out.below hJ.1 HK2.out.lt); have HS3 := Lib.hid (HS2.out.lift hJ.1)
      have HR3 : Hid (Bs w3r w3r.heap.size (.slice Ar 40 cr) (msgW seed (Z8 ++ O8 ++ Z16))) := Lib.hid (BsS.keep hr10 fun g hs _ => ⟨rfl, hs.2⟩)
      clear hJ hF hr10 hrow5 hx1 hx2 hw3 hq5
      go_upto_region 4 with fail
      refine wp_region_rg 12 [some 28, some 29, some 30, some 31, some 32, some 33, some 27, some 34, some 35, some 7, none, some 8] [[], [], [], [], [], [0, 1, 2, 3, 4], [0, 1, 2, 3, 4, 5], [0, 1, 2, 3, 4, 5, 6], [0, 1, 2, 3, 4, 5, 6], [], [0, 1, 2, 3, 4, 5, 6, 7, 9], [0, 1, 2, 3, 4, 5, 6, 7, 8, 9, 10]]
        (JZ w3r 9 10) (RZ w3r)
        [fun v _ => v 0 = .slice As 16 cs,
         fun v w1 => ∃ q, v 1 = .slice (some ⟨q, 0, none⟩) 8 8 ∧ BsS w1 (New w3r w1) (.slice (some ⟨q, 0, none⟩) 8 8) Z8,
         fun v w1 => ∃ q, v 2 = .slice (some ⟨q, 0, none⟩) 8 8 ∧ BsS w1 (New w3r w1) (.slice (some ⟨q, 0, none⟩) 8 8) O8,
         fun v w1 => ∃ q, v 3 = .slice (some ⟨q, 0, none⟩) 16 16 ∧ BsS w1 (New w3r w1) (.slice (some ⟨q, 0, none⟩) 16 16) Z16,
         fun v _ => v 4 = .slice Ar 40 cr,
         fun v w1 => ∃ X1 x1 X2 x2, v 5 = .tuple #[.agg #[.slice X1 16 x1, .slice X2 16 x2, .int .i64 (numS Z8 O8)], .int .i64 0] ∧ BsS w1 (New w3r w1) (.slice X1 16 x1) (keyW (xorL Z16 Z16) 1) ∧ BsS w1 (New w3r w1) (.slice X2 16 x2) (keyW (xorL Z16 Z16) 2),
         fun v w1 => ∃ X1 x1 X2 x2, v 6 = .tuple #[.agg #[.slice X1 16 x1, .slice X2 16 x2, .int .i64 (numS Z8 O8)], .int .i64 0] ∧ BsS w1 (New w3r w1) (.slice X1 16 x1) (keyW (xorL Z16 Z16) 1) ∧ BsS w1 (New w3r w1) (.slice X2 16 x2) (keyW (xorL Z16 Z16) 2),
         fun v w1 => ∃ X1 x1 X2 x2, v 7 = .agg #[.slice X1 16 x1, .slice X2 16 x2, .int .i64 (numS Z8 O8)] ∧ BsS w1 (New w3r w1) (.slice X1 16 x1) (keyW (xorL Z16 Z16) 1) ∧ BsS w1 (New w3r w1) (.slice X2 16 x2) (keyW (xorL Z16 Z16) 2),
         fun v _ => v 8 = .int .i64 0,
         fun v w1 => True,
         fun v w1 => ∃ q X1 x1 X2 x2, v 9 = .pointer (some ⟨q, 0, none⟩) ∧ w3r.heap.size ≤ q ∧ w1.heap[q]? = some (.cells #[.slice X1 16 x1, .slice X2 16 x2, .int .i64 (numS Z8 O8)] 40 (0, 0)) ∧ BsS w1 (New w3r w1) (.slice X1 16 x1) (keyW (xorL Z16 Z16) 1) ∧ BsS w1 (New w3r w1) (.slice X2 16 x2) (keyW (xorL Z16 Z16) 2),
         fun v _ => v 11 = .int .i64 0]
        (by kernel_rfl) (by kernel_rfl) (fun _ => JZ.start) ?st ?steps ?tail
      case st =>
        exact (.cons (fun _ _ _ _ _ _ h => h) (.cons (fun _ _ _ _ _ hr ⟨q, e, h⟩ => ⟨q, e, h.rz hr⟩) (.cons (fun _ _ _ _ _ hr ⟨q, e, h⟩ => ⟨q, e, h.rz hr⟩) (.cons (fun _ _ _ _ _ hr ⟨q, e, h⟩ => ⟨q, e, h.rz hr⟩) (.cons (fun _ _ _ _ _ _ h => h) (.cons (fun _ _ _ _ _ hr ⟨X1, x1, X2, x2, e, h1, h2⟩ => ⟨X1, x1, X2, x2, e, h1.rz hr, h2.rz hr⟩) (.cons (fun _ _ _ _ _ hr ⟨X1, x1, X2, x2, e, h1, h2⟩ => ⟨X1, x1, X2, x2, e, h1.rz hr, h2.rz hr⟩) (.cons (fun _ _ _ _ _ hr ⟨X1, x1, X2, x2, e, h1, h2⟩ => ⟨X1, x1, X2, x2, e, h1.rz hr, h2.rz hr⟩) (.cons (fun _ _ _ _ _ _ h => h) (.cons (fun _ _ _ _ _ _ h => h) (.cons (fun _ _ _ _ _ hr ⟨q, X1, x1, X2, x2, e, hq, hw, h1, h2⟩ => ⟨q, X1, x1, X2, x2, e, hq, hr.row hw (by simp), h1.rz hr, h2.rz hr⟩) (.cons (fun _ _ _ _ _ _ h => h) .nil))))))))))))
      case steps =>
        simp only [List.take_succ_cons, List.take_zero]
        refine (.cons ?_ (.cons ?_ (.cons ?_ (.cons ?_ (.cons ?_ (.cons ?_ (.cons ?_ (.cons ?_ (.cons ?_ (.cons ?_ (.cons ?_ (.cons ?_ .nil))))))))))))
        all_goals (intro L v w1 hJ hL hA hF K hK; simp only [fillRG, Act.put, Nat.zero_add, Nat.reduceAdd, List.setIfInBounds_toArray, List.set_cons_zero, List.set_cons_succ] at hK ⊢)
        · go_simp
          refine hK _ _ (hJ.step (Below.refl _ _) 0 (by decide) (by decide)) RZ.refl ?_
          first | exact rfl | exact val_mod _
        · have Hm := make8
          go_simp
          exact hK _ _ (hJ.step (zero8b w1) 1 (by decide) (by decide)) (RZ.of (zero8b w1)) ⟨_, rfl, BsS.keep (zero_8 w1) fun g hs _ => ⟨rfl, Nat.le_trans hJ.1.size hs.1, hs.2⟩⟩
        · go_simp
          exact hK _ _ (hJ.step ((Below.refl _ _).alloc (Nat.le_refl _) _) 2 (by decide) (by decide)) (RZ.of ((Below.refl _ _).alloc (Nat.le_refl _) _)) ⟨_, rfl, BsS.keep (o8_row w1) fun g hs _ => ⟨rfl, Nat.le_trans hJ.1.size hs.1, hs.2⟩⟩
        · have Hm := make16
          go_simp
          exact hK _ _ (hJ.step (zero16b w1) 3 (by decide) (by decide)) (RZ.of (zero16b w1)) ⟨_, rfl, BsS.keep (zero_z w1) fun g hs _ => ⟨rfl, Nat.le_trans hJ.1.size hs.1, hs.2⟩⟩
        · go_simp
          refine hK _ _ (hJ.step (Below.refl _ _) 4 (by decide) (by decide)) RZ.refl ?_
          first | exact rfl | exact val_mod _
        · have e0 : v 0 = .slice As 16 cs := hF 0 (hA 0 (by simp))
          have e4 : v 4 = .slice Ar 40 cr := hF 4 (hA 4 (by simp))
          simp only [e0, e4] at hK
          obtain ⟨q1, e1, hz1⟩ : ∃ q, v 1 = .slice (some ⟨q, 0, none⟩) 8 8 ∧ BsS w1 (New w3r w1) (.slice (some ⟨q, 0, none⟩) 8 8) Z8 := hF 1 (hA 1 (by simp))
          obtain ⟨q2, e2, hz2⟩ : ∃ q, v 2 = .slice (some ⟨q, 0, none⟩) 8 8 ∧ BsS w1 (New w3r w1) (.slice (some ⟨q, 0, none⟩) 8 8) O8 := hF 2 (hA 2 (by simp))
          obtain ⟨q3, e3, hz3⟩ : ∃ q, v 3 = .slice (some ⟨q, 0, none⟩) 16 16 ∧ BsS w1 (New w3r w1) (.slice (some ⟨q, 0, none⟩) 16 16) Z16 := hF 3 (hA 3 (by simp))
          simp only [e1, e2, e3] at hK
          go_simp
          refine (finish_any _ _ _ _ _ seed Z8 O8 Z16 (msgW seed (Z8 ++ O8 ++ Z16)) w1 (HK3.out.below hJ.1 HK3.out.lt) (HS3.out.lift hJ.1) (BsS.keep hz1 fun g hs _ => ⟨rfl, hs.2⟩) (BsS.keep hz2 fun g hs _ => ⟨rfl, hs.2⟩) (BsS.keep hz3 fun g hs _ => ⟨rfl, hs.2⟩) (HR3.out.lift hJ.1)).mono ?_
          rw [HFI.out]
          rintro e w5 ⟨s5, rfl, ⟨y1, y2, rfl, h1, h2⟩, hb⟩
          obtain ⟨X1, x1, hv1⟩ : ∃ A c, y1 = .slice A 16 c := (by obtain ⟨a, c, e, _⟩ := h1; rw [(sesW_len _ _ _ _).1] at e; exact ⟨a, c, e⟩)
          obtain ⟨X2, x2, hv2⟩ : ∃ A c, y2 = .slice A 16 c := (by obtain ⟨a, c, e, _⟩ := h2; rw [(sesW_len _ _ _ _).2] at e; exact ⟨a, c, e⟩)
          subst hv1; subst hv2
          exact hK _ _ (hJ.step hb 5 (by decide) (by decide)) (RZ.of hb) ⟨X1, x1, X2, x2, rfl, h1.keep fun g hs _ => ⟨rfl, Nat.le_trans hJ.1.size hs.1, hs.2⟩, h2.keep fun g hs _ => ⟨rfl, Nat.le_trans hJ.1.size hs.1, hs.2⟩⟩
        · obtain ⟨X1, x1, X2, x2, ei, h2, h3⟩ : ∃ X1 x1 X2 x2, v 5 = .tuple #[.agg #[.slice X1 16 x1, .slice X2 16 x2, .int .i64 (numS Z8 O8)], .int .i64 0] ∧ BsS w1 (New w3r w1) (.slice X1 16 x1) (keyW (xorL Z16 Z16) 1) ∧ BsS w1 (New w3r w1) (.slice X2 16 x2) (keyW (xorL Z16 Z16) 2) := hF 5 (hA 5 (by simp))
          simp only [ei] at hK
          go_simp
          exact hK _ _ (hJ.step (Below.refl _ _) 6 (by decide) (by decide)) RZ.refl ⟨X1, x1, X2, x2, rfl, h2, h3⟩
        · obtain ⟨X1, x1, X2, x2, ei, h2, h3⟩ : ∃ X1 x1 X2 x2, v 6 = .tuple #[.agg #[.slice X1 16 x1, .slice X2 16 x2, .int .i64 (numS Z8 O8)], .int .i64 0] ∧ BsS w1 (New w3r w1) (.slice X1 16 x1) (keyW (xorL Z16 Z16) 1) ∧ BsS w1 (New w3r w1) (.slice X2 16 x2) (keyW (xorL Z16 Z16) 2) := hF 6 (hA 6 (by simp))
          simp only [ei] at hK
          go_simp
          exact hK _ _ (hJ.step (Below.refl _ _) 7 (by decide) (by decide)) RZ.refl ⟨X1, x1, X2, x2, rfl, h2, h3⟩
        · obtain ⟨X1, x1, X2, x2, ei, h2, h3⟩ : ∃ X1 x1 X2 x2, v 6 = .tuple #[.agg #[.slice X1 16 x1, .slice X2 16 x2, .int .i64 (numS Z8 O8)], .int .i64 0] ∧ BsS w1 (New w3r w1) (.slice X1 16 x1) (keyW (xorL Z16 Z16) 1) ∧ BsS w1 (New w3r w1) (.slice X2 16 x2) (keyW (xorL Z16 Z16) 2) := hF 6 (hA 6 (by simp))
          simp only [ei] at hK
          go_simp
          exact hK _ _ (hJ.step (Below.refl _ _) 8 (by decide) (by decide)) RZ.refl rfl
        · go_simp
          exact hK _ _ (hJ.alloc (by decide)) (RZ.of ((Below.refl _ _).alloc (Nat.le_refl _) _)) trivial
        · obtain ⟨q, e9, hq0, hq1, hrow⟩ := hJ.2 hL (hA 9 (by simp))
          obtain ⟨X1, x1, X2, x2, e7, hx1, hx2⟩ : ∃ X1 x1 X2 x2, v 7 = .agg #[.slice X1 16 x1, .slice X2 16 x2, .int .i64 (numS Z8 O8)] ∧ BsS w1 (New w3r w1) (.slice X1 16 x1) (keyW (xorL Z16 Z16) 1) ∧ BsS w1 (New w3r w1) (.slice X2 16 x2) (keyW (xorL Z16 Z16) 2) := hF 7 (hA 7 (by simp))
          simp only [e9, e7] at hK ⊢
          obtain ⟨z0, z1, z2, zf⟩ := sess3 hrow
          have zf0 := zf 0; have zf1 := zf 1; have zf2 := zf 2
          clear zf
          go_simp
          exact hK undef _ (hJ.store hq0) (RZ.set hq0 hrow _ _ _) ⟨q, X1, x1, X2, x2, e9, hq0, set3_row _ _ _ hrow, hx1.rz (RZ.set hq0 hrow _ _ _), hx2.rz (RZ.set hq0 hrow _ _ _)⟩
        · have e8 : v 8 = .int .i64 0 := hF 8 (hA 8 (by simp))
          simp only [e8] at hK
          go_simp
          refine hK _ _ (hJ.step (Below.refl _ _) 11 (by decide) (by decide)) RZ.refl ?_
          first | exact rfl | exact val_mod _
      case tail =>
        intro v w1 hJ hF
        have e0 : v 0 = .slice As 16 cs := hF 0 (by simp)
        have e4 : v 4 = .slice Ar 40 cr := hF 4 (by simp)
        have e8 : v 8 = .int .i64 0 := hF 8 (by simp)
        have e11 : v 11 = .int .i64 0 := hF 11 (by simp)
        obtain ⟨q7, X3, x3, X4, x4, e10, hq7, hrow7, hx3, hx4⟩ : ∃ q X1 x1 X2 x2, v 9 = .pointer (some ⟨q, 0, none⟩) ∧ w3r.heap.size ≤ q ∧ w1.heap[q]? = some (.cells #[.slice X1 16 x1, .slice X2 16 x2, .int .i64 (numS Z8 O8)] 40 (0, 0)) ∧ BsS w1 (New w3r w1) (.slice X1 16 x1) (keyW (xorL Z16 Z16) 1) ∧ BsS w1 (New w3r w1) (.slice X2 16 x2) (keyW (xorL Z16 Z16) 2) := hF 10 (by simp)
        simp only [List.drop_succ_cons, List.drop_zero, fillRG, Act.put, Nat.zero_add, Nat.reduceAdd, List.setIfInBounds_toArray, List.set_cons_zero, List.set_cons_succ]
        simp only [e10, e11]
        clear e0 e4 e8 e10 e11
        obtain ⟨y0, y1, y2, _⟩ := sess3 hrow7
        have hj := hJ.1
        obtain ⟨z0, z1, z2, _⟩ := sess3 ((hj.block q5 (Array.getElem?_eq_some_iff.1 HROW5.out).1).trans HROW5.out)
        have HX3 := Lib.hid hx3; have HX4 := Lib.hid hx4; have HB4 := Lib.hid hj
        clear hJ hF hx3 hx4 hrow7 hq7 hj
        go_wp2_with (go_at_call 21; refine (ssame_any _ _ (keyW (xorL Z16 Z16) 1) (keyW (xorL Z16 Z16) 2) (keyW (xorL Z16 Z16) 1) (keyW (xorL Z16 Z16) 2) (numS Z8 O8) (numS Z8 O8) (fun _ => True) (fun _ => True) w1 ⟨_, _, rfl, BsS.keep HX1.out fun g hs hl => ⟨HB4.out.block g hl, trivial⟩, BsS.keep HX2.out fun g hs hl => ⟨HB4.out.block g hl, trivial⟩⟩ ⟨_, _, rfl, BsS.keep HX3.out fun g hs _ => ⟨rfl, trivial⟩, BsS.keep HX4.out fun g hs _ => ⟨rfl, trivial⟩⟩).mono ?_; rintro e w6 ⟨rfl, hb6⟩; rw [decide_eq_true (show (numS Z8 O8) = (numS Z8 O8) ∧ (keyW (xorL Z16 Z16) 1) = (keyW (xorL Z16 Z16) 1) ∧ (keyW (xorL Z16 Z16) 2) = (keyW (xorL Z16 Z16) 2) from ⟨rfl, rfl, rfl⟩)]; have HB6 := Lib.hid hb6; clear hb6)
        go_ret
        exact ⟨rfl, HBW3.out.trans ((HB4.out.trans (HB6.out.mono HB4.out.size)).mono HBW3.out.size)⟩
end Go.Proofs.YtjbmmdcnccclaaaDoor
