/- Basic access: Answer and Finish of the reference. -/
import Derived.Test.YtjbmmdcnccclaaaDoorQAwB
namespace Go.Proofs.YtjbmmdcnccclaaaDoor
open Go.RowKit Go.Deep

theorem bs_some {w : World} {S : Nat → Prop} {A : Option Addr} {n c : Nat} {l : List UInt8} (h : BsS w S (.slice A n c) l) (hn : 0 < n) : ∃ b o, A = some ⟨b, o, none⟩ ∧ n ≤ c ∧ c ≤ 9223372036854775807 := by
  obtain ⟨a, c', hv, h1, h2, h3, h4⟩ := h
  obtain ⟨ha, hl, hc⟩ := Value.slice.inj hv
  clear hv
  subst ha; subst hc
  rw [hl] at hn
  obtain ⟨b, o, e, _⟩ := h4 hn
  exact ⟨b, o, e, by omega, by omega⟩
set_option maxRecDepth 100000 in
set_option maxHeartbeats 4000000 in
theorem ranswer_any (vd vo vh vm : Value) (seed own half m : List UInt8) (w : World) (hK : KR w) (hd : Bs w w.heap.size vd seed) (ho : Bs w w.heap.size vo own) (hh : Bs w w.heap.size vh half) (hm : Bs w w.heap.size vm m) :
    Calls Tryd.prog 20 #[vd, vo, vh, vm] w (AnsOut (ansW seed own half m) w) := by
  obtain ⟨w0, hw0⟩ : ∃ w0, w0 = w.alloc (.cells #[.slice none 0 0, .slice none 0 0, .int .i64 0] 40) := ⟨_, rfl⟩
  have hB0 : Below w.heap.size w w0 := by rw [hw0]; exact (Below.refl _ _).alloc (Nat.le_refl _) _
  have hz0 : w0.heap.size = w.heap.size + 1 := by rw [hw0]; simp
  have hh0 : w0.heap[w.heap.size]? = some (.cells #[.slice none 0 0, .slice none 0 0, .int .i64 0] 40 (0, 0)) := by rw [hw0]; exact heap_alloc_new _ _
  have hlt0 := (Array.getElem?_eq_some_iff.1 hh0).1
  have FR := Lib.hid (fun (W : World) (hb : Below w0.heap.size w0 W) => sess3 ((hb.block w.heap.size hlt0).trans hh0))
  have RN := Lib.hid (fun (W : World) (a b c : Value) (hb : Below w0.heap.size w0 W) => sess3 (set3_row a b c ((hb.block w.heap.size hlt0).trans hh0)))
  have OUT := Lib.hid (fun (W : World) (a b c : Value) (hb : Below w0.heap.size w0 W) => (set3_below (a := a) (b := b) (c := c) (hB0.trans (hb.mono hB0.size)) (Nat.le_refl _) : Below w.heap.size w (set3 W w.heap.size a b c)))
  obtain ⟨da, dn, dc, rfl⟩ := hd.form
  obtain ⟨oa, on, oc, rfl⟩ := ho.form
  obtain ⟨ga, gn, gc, rfl⟩ := hh.form
  obtain ⟨ma, mn, mc, rfl⟩ := hm.form
  obtain rfl := Bs.lenEq hd
  obtain rfl := Bs.lenEq ho
  obtain rfl := Bs.lenEq hh
  obtain rfl := Bs.lenEq hm
  have HW0 := Lib.hid hw0; have HB0 := Lib.hid hB0; have HZ0 := Lib.hid hz0
  have HD := Lib.hid (hd.lift hB0); have HO := Lib.hid (ho.lift hB0); have HH := Lib.hid (hh.lift hB0); have HM := Lib.hid (hm.lift hB0); have HKT := Lib.hid (hK.below hB0 hK.lt)
  clear hK hd ho hh hm hw0 hB0 hz0 hh0 hlt0
  by_cases hl0 : seed.length = 16
  · have t0 : ((seed.length : Int) != 16) = false := by simp; omega
    have HL0 := Lib.hid hl0
    clear hl0
    by_cases hl1 : own.length = 8
    · have t1 : ((own.length : Int) != 8) = false := by simp; omega
      have HL1 := Lib.hid hl1
      clear hl1
      by_cases hl2 : half.length = 16
      · have t2 : ((half.length : Int) != 16) = false := by simp; omega
        have HL2 := Lib.hid hl2
        clear hl2
        by_cases hl3 : m.length = 40
        · have t3 : ((m.length : Int) != 40) = false := by simp; omega
          have HL3 := Lib.hid hl3
          clear hl3
          have HRD := Lib.hid (ropenm_any _ _ seed m w0 HKT.out HD.out HM.out (by have := HL0.out; omega) HL3.out)
          have HLP := Lib.hid (plainW_len seed m HL3.out)
          by_cases h3 : macOK seed m
          · have H3 := Lib.hid h3
            obtain ⟨o, hoo⟩ : ∃ o, decide (((plainW seed m).drop 8).take 8 = own) = o := ⟨_, rfl⟩
            have HO8 := HO
            have HO := Lib.hid hoo
            clear h3 hoo
            cases o with
            | false =>
              go_enter Tryd.func20, Tryd.ntmps20
              go_upto_region 1 with fail
              rw [← HW0.out]
              go_upto_region 7 with (first
                | (go_at_call 11; refine (same_any _ _ (((plainW seed m).drop 8).take 8) own _ _ w3 HS2.out (HO8.out.lift HB3.out)).mono ?_; rintro e w4 ⟨rfl, ndw4, hw4⟩; rw [HO.out]; have hb4 : Below w3.heap.size w3 w4 := (by rw [hw4]; exact below_drewN (Below.refl _ _) ndw4); have Hw4 := Lib.hid hb4; have Bw4 := Lib.hid (HB3.out.trans (hb4.mono HB3.out.size)); clear hb4 hw4)
                | (go_at_call 35; refine HRD.out.mono ?_; rintro e w3 ⟨hb, hr⟩; obtain ⟨A1, c1, rfl, hs⟩ := (hr.resolve_left fun h => h.1 H3.out).2; obtain ⟨pb, po, hA1, hcl, hcu⟩ := bs_some hs (by omega); subst hA1; have hs' := bs_later hs (fun _ h => h.2) (Below.refl _ _); have HS1 : Hid (Bs w3 w3.heap.size (.slice (some ⟨pb, po, none⟩) 8 c1) ((plainW seed m).take 8)) := Lib.hid (BsS.cut hs' (by rw [HLP.out]; omega) (by omega) hcu); have HS2 : Hid (Bs w3 w3.heap.size (.slice (some ⟨pb, po + 8, none⟩) 8 (c1 - 8)) (((plainW seed m).drop 8).take 8)) := Lib.hid (BsS.mid hs' (by rw [HLP.out]; omega) (by omega) (by omega)); have HS3 : Hid (Bs w3 w3.heap.size (.slice (some ⟨pb, po + 16, none⟩) 16 (c1 - 16)) ((plainW seed m).drop 16)) := Lib.hid (by have h := BsS.mid (k := 16) (n := 16) (d := c1 - 16) hs' (by rw [HLP.out]; omega) (by omega) (by omega); rwa [List.take_of_length_le (by rw [List.length_drop, HLP.out]; omega)] at h); have HC1 := Lib.hid hcl; have hc8 : 8 < c1 := (by omega); have hc8n : ¬ c1 = 8 := (by omega); have hc16 : 16 < c1 := (by omega); have hc16n : ¬ c1 = 16 := (by omega); have HB3 := Lib.hid hb; clear hr hs hs' hb hcl hcu))
              obtain ⟨z0, z1, z2, zf⟩ := FR.out w4 Bw4.out
              have zf0 := zf 0; have zf1 := zf 1; have zf2 := zf 2
              obtain ⟨y0, y1, y2, _⟩ := RN.out w4 (.slice none 0 0) (.slice none 0 0) (.int .i64 0) Bw4.out
              clear zf
              go_wp2_with fail
              refine bodyPost_ret (v := .tuple #[.slice none 0 0, .agg #[.slice none 0 0, .slice none 0 0, .int .i64 0], .int .i64 21]) (by simp only [set3] at y0 y1 y2; simp [results, Tryd.results20, go_sem, y0, y1, y2]) rfl ?_
              rw [show ansW seed own half m = (21, [], [], [], 0) from (by unfold ansW; rw [if_neg (fun h => h ⟨HL0.out, HL2.out, HL1.out, HL3.out⟩), if_neg (fun h => h H3.out), if_pos (of_decide_eq_false HO.out)])]
              exact ⟨_, _, rfl, bs_nil _ _, ⟨_, _, rfl, bs_nil _ _, bs_nil _ _⟩, OUT.out w4 _ _ _ Bw4.out⟩
            | true =>
              have HE : Hid (ansW seed own half m = (0, msgW seed (own ++ (plainW seed m).take 8 ++ half), sesW half ((plainW seed m).drop 16) own ((plainW seed m).take 8))) := Lib.hid (by unfold ansW; rw [if_neg (fun h => h ⟨HL0.out, HL2.out, HL1.out, HL3.out⟩), if_neg (fun h => h H3.out), if_neg (fun h => h (of_decide_eq_true HO.out))])
              have h16 : (own ++ (plainW seed m).take 8).length = 16 := by
                rw [List.length_append, List.length_take, HLP.out, HL1.out]; rfl
              have h32 : (own ++ (plainW seed m).take 8 ++ half).length = 32 := by
                rw [List.length_append, h16, HL2.out]
              have H16 := Lib.hid h16; have H32 := Lib.hid h32
              have HML := Lib.hid (msgW_len seed _ h32)
              have HLT : Hid (((plainW seed m).take 8).length = 8) := Lib.hid (by rw [List.length_take, HLP.out]; rfl)
              clear h16 h32
              go_enter Tryd.func20, Tryd.ntmps20
              go_upto_region 1 with fail
              rw [← HW0.out]
              go_upto_region 9 with (first
                | (go_at_call 28; refine (rmessage_any _ _ seed (own ++ (plainW seed m).take 8 ++ half) wb (HKT.out.below HBb.out HKT.out.lt) (HD.out.lift HBb.out) HJ2.out (by have := HL0.out; omega) H32.out).mono ?_; rintro e w5 ⟨v5, rfl, ho5, hb⟩; have HB45 := Lib.hid (HBab.out.trans (hb.mono HBab.out.size)); have HR5 : Hid (BsS w5 (New w4 w5) v5 (msgW seed (own ++ (plainW seed m).take 8 ++ half))) := Lib.hid (OwnB.out ho5 (by rw [HML.out]; omega) w4 HBab.out.size); have HB5 := Lib.hid (HBb.out.trans (hb.mono HBb.out.size)); clear ho5 hb)
                | (go_at_call 29; refine (join_any _ _ (own ++ (plainW seed m).take 8) half _ _ wa HJ1.out (HH.out.lift HBa.out) (by rw [H16.out, HL2.out]; omega)).mono ?_; rintro e wb ⟨vb, rfl, ho, hb⟩; have HJ2 : Hid (Bs wb wb.heap.size vb (own ++ (plainW seed m).take 8 ++ half)) := Lib.hid (ho.bs (by rw [H32.out]; omega)); have HBb := Lib.hid (HBa.out.trans (hb.mono HBa.out.size)); have HBab := Lib.hid (HB4a.out.trans (hb.mono HB4a.out.size)); clear ho hb)
                | (go_at_call 29; refine (join_any _ _ own ((plainW seed m).take 8) _ _ w4 (HO8.out.lift Bw4.out) (HS1.out.lift Hw4.out) (by rw [HL1.out, HLT.out]; omega)).mono ?_; rintro e wa ⟨va, rfl, ho, hb⟩; have HJ1 : Hid (Bs wa wa.heap.size va (own ++ (plainW seed m).take 8)) := Lib.hid (ho.bs (by rw [H16.out]; omega)); have HB4a := Lib.hid hb; have HBa := Lib.hid (Bw4.out.trans (hb.mono Bw4.out.size)); clear ho hb)
                | (go_at_call 11; refine (same_any _ _ (((plainW seed m).drop 8).take 8) own _ _ w3 HS2.out (HO8.out.lift HB3.out)).mono ?_; rintro e w4 ⟨rfl, ndw4, hw4⟩; rw [HO.out]; have hb4 : Below w3.heap.size w3 w4 := (by rw [hw4]; exact below_drewN (Below.refl _ _) ndw4); have Hw4 := Lib.hid hb4; have Bw4 := Lib.hid (HB3.out.trans (hb4.mono HB3.out.size)); clear hb4 hw4)
                | (go_at_call 35; refine HRD.out.mono ?_; rintro e w3 ⟨hb, hr⟩; obtain ⟨A1, c1, rfl, hs⟩ := (hr.resolve_left fun h => h.1 H3.out).2; obtain ⟨pb, po, hA1, hcl, hcu⟩ := bs_some hs (by omega); subst hA1; have hs' := bs_later hs (fun _ h => h.2) (Below.refl _ _); have HS1 : Hid (Bs w3 w3.heap.size (.slice (some ⟨pb, po, none⟩) 8 c1) ((plainW seed m).take 8)) := Lib.hid (BsS.cut hs' (by rw [HLP.out]; omega) (by omega) hcu); have HS2 : Hid (Bs w3 w3.heap.size (.slice (some ⟨pb, po + 8, none⟩) 8 (c1 - 8)) (((plainW seed m).drop 8).take 8)) := Lib.hid (BsS.mid hs' (by rw [HLP.out]; omega) (by omega) (by omega)); have HS3 : Hid (Bs w3 w3.heap.size (.slice (some ⟨pb, po + 16, none⟩) 16 (c1 - 16)) ((plainW seed m).drop 16)) := Lib.hid (by have h := BsS.mid (k := 16) (n := 16) (d := c1 - 16) hs' (by rw [HLP.out]; omega) (by omega) (by omega); rwa [List.take_of_length_le (by rw [List.length_drop, HLP.out]; omega)] at h); have HC1 := Lib.hid hcl; have hc8 : 8 < c1 := (by omega); have hc8n : ¬ c1 = 8 := (by omega); have hc16 : 16 < c1 := (by omega); have hc16n : ¬ c1 = 16 := (by omega); have HB3 := Lib.hid hb; clear hr hs hs' hb hcl hcu))
              have HK5 := Lib.hid (HKT.out.below HB5.out HKT.out.lt); have HO5 := Lib.hid (HO8.out.lift HB5.out); have HH5 := Lib.hid (HH.out.lift HB5.out)
              have HB35 : Hid (Below w3.heap.size w3 w5) := Lib.hid (Hw4.out.trans (HB45.out.mono Hw4.out.size))
              have HS15 := Lib.hid (HS1.out.lift HB35.out); have HS35 := Lib.hid (HS3.out.lift HB35.out)
              refine wp_region_rg 9 [some 57, some 58, some 59, some 60, some 61, some 62, some 63, some 64, some 8] [[], [], [], [2], [], [], [5], [1, 2, 3, 4, 5, 6], [0, 1, 2, 3, 4, 5, 6, 7]]
                (fun _ _ w1 => Below w5.heap.size w5 w1) (fun w1 w2 => Below w1.heap.size w1 w2)
                [fun v _ => v 0 = v5,
                 fun v _ => v 1 = .slice oa own.length oc,
                 fun v _ => v 2 = .slice (some ⟨pb, po, none⟩) 32 c1,
                 fun v _ => v 3 = .slice (some ⟨pb, po, none⟩) 8 c1,
                 fun v _ => v 4 = .slice ga half.length gc,
                 fun v _ => v 5 = .slice (some ⟨pb, po, none⟩) 32 c1,
                 fun v _ => v 6 = .slice (some ⟨pb, po + 16, none⟩) 16 (c1 - 16),
                 fun v w1 => ∃ A c B d, v 7 = .agg #[.slice A 16 c, .slice B 16 d, .int .i64 (numS own ((plainW seed m).take 8))] ∧ BsS w1 (New w5 w1) (.slice A 16 c) (keyW (xorL half ((plainW seed m).drop 16)) 1) ∧ BsS w1 (New w5 w1) (.slice B 16 d) (keyW (xorL half ((plainW seed m).drop 16)) 2),
                 fun v _ => v 8 = v5]
                (by kernel_rfl) (by kernel_rfl) (fun _ => (Below.refl _ _).drew) ?st ?steps ?tail
              case st =>
                exact (.cons (fun _ _ _ _ _ _ h => h) (.cons (fun _ _ _ _ _ _ h => h) (.cons (fun _ _ _ _ _ _ h => h) (.cons (fun _ _ _ _ _ _ h => h) (.cons (fun _ _ _ _ _ _ h => h) (.cons (fun _ _ _ _ _ _ h => h) (.cons (fun _ _ _ _ _ _ h => h) (.cons (fun _ _ _ _ _ hr ⟨A, c, B, d, e, h1, h2⟩ => ⟨A, c, B, d, e, BsS.keep h1 fun g hs hl => ⟨hr.block g hl, hs.1, Nat.lt_of_lt_of_le hs.2 hr.size⟩, BsS.keep h2 fun g hs hl => ⟨hr.block g hl, hs.1, Nat.lt_of_lt_of_le hs.2 hr.size⟩⟩) (.cons (fun _ _ _ _ _ _ h => h) .nil)))))))))
              case steps =>
                simp only [List.take_succ_cons, List.take_zero]
                refine (.cons ?_ (.cons ?_ (.cons ?_ (.cons ?_ (.cons ?_ (.cons ?_ (.cons ?_ (.cons ?_ (.cons ?_ .nil)))))))))
                all_goals (intro L v w1 hJ hL hA hF K hK; simp only [fillRG, Act.put, Nat.zero_add, Nat.reduceAdd, List.setIfInBounds_toArray, List.set_cons_zero, List.set_cons_succ] at hK ⊢)
                · go_simp
                  refine hK _ _ hJ (Below.refl _ _) ?_
                  first | exact rfl | exact val_mod _
                · go_simp
                  refine hK _ _ hJ (Below.refl _ _) ?_
                  first | exact rfl | exact val_mod _
                · go_simp
                  refine hK _ _ hJ (Below.refl _ _) ?_
                  first | exact rfl | exact val_mod _
                · have e2 : v 2 = .slice (some ⟨pb, po, none⟩) 32 c1 := hF 2 (hA 2 (by simp))
                  have h8 : 8 ≤ c1 := Nat.le_trans (by omega) HC1.out
                  have h8' : (8 : Int) ≤ c1 := by omega
                  simp only [e2] at hK
                  go_simp
                  refine hK _ _ hJ (Below.refl _ _) ?_
                  first | exact rfl | exact val_mod _
                · go_simp
                  refine hK _ _ hJ (Below.refl _ _) ?_
                  first | exact rfl | exact val_mod _
                · go_simp
                  refine hK _ _ hJ (Below.refl _ _) ?_
                  first | exact rfl | exact val_mod _
                · have e5 : v 5 = .slice (some ⟨pb, po, none⟩) 32 c1 := hF 5 (hA 5 (by simp))
                  have h6 : 16 < c1 := Nat.lt_of_lt_of_le (by omega) HC1.out
                  have h6e : ¬ c1 = 16 := (by omega)
                  have h6' : (16 : Int) ≤ c1 := by omega
                  simp only [e5] at hK
                  go_simp
                  refine hK _ _ hJ (Below.refl _ _) ?_
                  first | exact rfl | exact val_mod _
                · have e1 : v 1 = .slice oa own.length oc := hF 1 (hA 1 (by simp))
                  have e3 : v 3 = .slice (some ⟨pb, po, none⟩) 8 c1 := hF 3 (hA 3 (by simp))
                  have e4 : v 4 = .slice ga half.length gc := hF 4 (hA 4 (by simp))
                  have e6 : v 6 = .slice (some ⟨pb, po + 16, none⟩) 16 (c1 - 16) := hF 6 (hA 6 (by simp))
                  simp only [e1, e3, e4, e6] at hK
                  go_simp
                  refine (rsession_any _ _ _ _ half ((plainW seed m).drop 16) own ((plainW seed m).take 8) w1 (HK5.out.below hJ HK5.out.lt) (HH5.out.lift hJ) (HS35.out.lift hJ) (HO5.out.lift hJ) (HS15.out.lift hJ) HL2.out (by rw [List.length_drop, HLP.out]) HL1.out (by rw [List.length_take, HLP.out]; rfl)).mono ?_
                  rintro e w6 ⟨v6, rfl, ⟨X1, x1, X2, x2, rfl, hx1, hx2⟩, hb⟩
                  exact hK _ _ (hJ.trans (hb.mono hJ.size)) hb ⟨X1, x1, X2, x2, rfl, hx1.keep fun g hs _ => ⟨rfl, Nat.le_trans hJ.size hs.1, hs.2⟩, hx2.keep fun g hs _ => ⟨rfl, Nat.le_trans hJ.size hs.1, hs.2⟩⟩
                · have e0 : v 0 = v5 := hF 0 (hA 0 (by simp))
                  simp only [e0] at hK
                  go_simp
                  refine hK _ _ hJ (Below.refl _ _) ?_
                  first | exact rfl | exact val_mod _
              case tail =>
                intro v w1 hJ hF
                have e0 : v 0 = v5 := hF 0 (by simp)
                have e1 : v 1 = .slice oa own.length oc := hF 1 (by simp)
                have e2 : v 2 = .slice (some ⟨pb, po, none⟩) 32 c1 := hF 2 (by simp)
                have e3 : v 3 = .slice (some ⟨pb, po, none⟩) 8 c1 := hF 3 (by simp)
                have e4 : v 4 = .slice ga half.length gc := hF 4 (by simp)
                have e5 : v 5 = .slice (some ⟨pb, po, none⟩) 32 c1 := hF 5 (by simp)
                have e6 : v 6 = .slice (some ⟨pb, po + 16, none⟩) 16 (c1 - 16) := hF 6 (by simp)
                have e8 : v 8 = v5 := hF 8 (by simp)
                obtain ⟨X1, x1, X2, x2, e7, hx1, hx2⟩ : ∃ A c B d, v 7 = .agg #[.slice A 16 c, .slice B 16 d, .int .i64 (numS own ((plainW seed m).take 8))] ∧ BsS w1 (New w5 w1) (.slice A 16 c) (keyW (xorL half ((plainW seed m).drop 16)) 1) ∧ BsS w1 (New w5 w1) (.slice B 16 d) (keyW (xorL half ((plainW seed m).drop 16)) 2) := hF 7 (by simp)
                simp only [List.drop_succ_cons, List.drop_zero, fillRG, Act.put, Nat.zero_add, Nat.reduceAdd, List.setIfInBounds_toArray, List.set_cons_zero, List.set_cons_succ]
                have HJ := Lib.hid hJ; have HX1 := Lib.hid hx1; have HX2 := Lib.hid hx2
                have hb1 : Below w0.heap.size w0 w1 := HB5.out.trans (hJ.mono HB5.out.size)
                have HBZ := Lib.hid hb1
                simp only [e7, e8]
                clear hJ hF hx1 hx2
                obtain ⟨z0, z1, z2, zf⟩ := FR.out w1 hb1
                have zf0 := zf 0; have zf1 := zf 1; have zf2 := zf 2
                obtain ⟨y0, y1, y2, _⟩ := RN.out w1 (.slice X1 16 x1) (.slice X2 16 x2) (.int .i64 (numS own ((plainW seed m).take 8))) hb1
                clear zf hb1
                go_wp2_with fail
                refine bodyPost_ret (v := .tuple #[v5, .agg #[.slice X1 16 x1, .slice X2 16 x2, .int .i64 (numS own ((plainW seed m).take 8))], .int .i64 0]) (by simp only [set3] at y0 y1 y2; simp [results, Tryd.results20, go_sem, y0, y1, y2]) rfl ?_
                rw [HE.out]
                have s45 := HB45.out.size; have s4 := Hw4.out.size
                have s0 := HZ0.out; have s3 := HB3.out.size; have s6 := HJ.out.size
                have hsz : (set3 w1 w.heap.size (.slice X1 16 x1) (.slice X2 16 x2) (.int .i64 (numS own ((plainW seed m).take 8)))).heap.size = w1.heap.size := by simp [set3]
                have hlt : ∀ g, g < w1.heap.size → g < (set3 w1 w.heap.size (.slice X1 16 x1) (.slice X2 16 x2) (.int .i64 (numS own ((plainW seed m).take 8)))).heap.size := fun g h => by rw [hsz]; exact h
                refine ⟨v5, _, rfl, ?_, ⟨_, _, rfl, ?_, ?_⟩, OUT.out w1 _ _ _ HBZ.out⟩
                · exact BsS.keep HR5.out fun g hg hl => ⟨(set3_other (by have := hg.1; omega)).trans (HJ.out.block g hg.2), by have := hg.1; omega, hlt g (by have := hg.2; omega)⟩
                · exact BsS.keep HX1.out fun g hg hl => ⟨set3_other (by have := hg.1; omega), by have := hg.1; omega, hlt g hg.2⟩
                · exact BsS.keep HX2.out fun g hg hl => ⟨set3_other (by have := hg.1; omega), by have := hg.1; omega, hlt g hg.2⟩
          · have H3 := Lib.hid h3
            clear h3
            go_enter Tryd.func20, Tryd.ntmps20
            go_upto_region 1 with fail
            rw [← HW0.out]
            go_upto_region 5 with (go_at_call 35; refine HRD.out.mono ?_; rintro e w3 ⟨hb, hr⟩; obtain rfl := (hr.resolve_right fun h => H3.out h.1).2; have HB3 := Lib.hid hb; clear hr hb)
            obtain ⟨z0, z1, z2, zf⟩ := FR.out w3 HB3.out
            have zf0 := zf 0; have zf1 := zf 1; have zf2 := zf 2
            obtain ⟨y0, y1, y2, _⟩ := RN.out w3 (.slice none 0 0) (.slice none 0 0) (.int .i64 0) HB3.out
            clear zf
            go_wp2_with fail
            refine bodyPost_ret (v := .tuple #[.slice none 0 0, .agg #[.slice none 0 0, .slice none 0 0, .int .i64 0], .int .i64 20]) (by simp only [set3] at y0 y1 y2; simp [results, Tryd.results20, go_sem, y0, y1, y2]) rfl ?_
            rw [show ansW seed own half m = (20, [], [], [], 0) from (by unfold ansW; rw [if_neg (fun h => h ⟨HL0.out, HL2.out, HL1.out, HL3.out⟩), if_pos H3.out])]
            exact ⟨_, _, rfl, bs_nil _ _, ⟨_, _, rfl, bs_nil _ _, bs_nil _ _⟩, OUT.out w3 _ _ _ HB3.out⟩
        · have t3 : ((m.length : Int) != 40) = true := by simp; omega
          have HN := Lib.hid hl3
          clear hl3
          go_enter Tryd.func20, Tryd.ntmps20
          go_upto_region 1 with fail
          rw [← HW0.out]
          obtain ⟨z0, z1, z2, zf⟩ := FR.out w0 (Below.refl _ _)
          have zf0 := zf 0; have zf1 := zf 1; have zf2 := zf 2
          obtain ⟨y0, y1, y2, _⟩ := RN.out w0 (.slice none 0 0) (.slice none 0 0) (.int .i64 0) (Below.refl _ _)
          clear zf
          go_wp2_with fail
          refine bodyPost_ret (v := .tuple #[.slice none 0 0, .agg #[.slice none 0 0, .slice none 0 0, .int .i64 0], .int .i64 2]) (by simp only [set3] at y0 y1 y2; simp [results, Tryd.results20, go_sem, y0, y1, y2]) rfl ?_
          rw [show ansW seed own half m = (2, [], [], [], 0) from (by unfold ansW; rw [if_pos (fun h => HN.out h.2.2.2)])]
          exact ⟨_, _, rfl, bs_nil _ _, ⟨_, _, rfl, bs_nil _ _, bs_nil _ _⟩, OUT.out w0 _ _ _ (Below.refl _ _)⟩
      · have t2 : ((half.length : Int) != 16) = true := by simp; omega
        have HN := Lib.hid hl2
        clear hl2
        go_enter Tryd.func20, Tryd.ntmps20
        go_upto_region 1 with fail
        rw [← HW0.out]
        obtain ⟨z0, z1, z2, zf⟩ := FR.out w0 (Below.refl _ _)
        have zf0 := zf 0; have zf1 := zf 1; have zf2 := zf 2
        obtain ⟨y0, y1, y2, _⟩ := RN.out w0 (.slice none 0 0) (.slice none 0 0) (.int .i64 0) (Below.refl _ _)
        clear zf
        go_wp2_with fail
        refine bodyPost_ret (v := .tuple #[.slice none 0 0, .agg #[.slice none 0 0, .slice none 0 0, .int .i64 0], .int .i64 2]) (by simp only [set3] at y0 y1 y2; simp [results, Tryd.results20, go_sem, y0, y1, y2]) rfl ?_
        rw [show ansW seed own half m = (2, [], [], [], 0) from (by unfold ansW; rw [if_pos (fun h => HN.out h.2.1)])]
        exact ⟨_, _, rfl, bs_nil _ _, ⟨_, _, rfl, bs_nil _ _, bs_nil _ _⟩, OUT.out w0 _ _ _ (Below.refl _ _)⟩
    · have t1 : ((own.length : Int) != 8) = true := by simp; omega
      have HN := Lib.hid hl1
      clear hl1
      go_enter Tryd.func20, Tryd.ntmps20
      go_upto_region 1 with fail
      rw [← HW0.out]
      obtain ⟨z0, z1, z2, zf⟩ := FR.out w0 (Below.refl _ _)
      have zf0 := zf 0; have zf1 := zf 1; have zf2 := zf 2
      obtain ⟨y0, y1, y2, _⟩ := RN.out w0 (.slice none 0 0) (.slice none 0 0) (.int .i64 0) (Below.refl _ _)
      clear zf
      go_wp2_with fail
      refine bodyPost_ret (v := .tuple #[.slice none 0 0, .agg #[.slice none 0 0, .slice none 0 0, .int .i64 0], .int .i64 2]) (by simp only [set3] at y0 y1 y2; simp [results, Tryd.results20, go_sem, y0, y1, y2]) rfl ?_
      rw [show ansW seed own half m = (2, [], [], [], 0) from (by unfold ansW; rw [if_pos (fun h => HN.out h.2.2.1)])]
      exact ⟨_, _, rfl, bs_nil _ _, ⟨_, _, rfl, bs_nil _ _, bs_nil _ _⟩, OUT.out w0 _ _ _ (Below.refl _ _)⟩
  · have t0 : ((seed.length : Int) != 16) = true := by simp; omega
    have HN := Lib.hid hl0
    clear hl0
    go_enter Tryd.func20, Tryd.ntmps20
    go_upto_region 1 with fail
    rw [← HW0.out]
    obtain ⟨z0, z1, z2, zf⟩ := FR.out w0 (Below.refl _ _)
    have zf0 := zf 0; have zf1 := zf 1; have zf2 := zf 2
    obtain ⟨y0, y1, y2, _⟩ := RN.out w0 (.slice none 0 0) (.slice none 0 0) (.int .i64 0) (Below.refl _ _)
    clear zf
    go_wp2_with fail
    refine bodyPost_ret (v := .tuple #[.slice none 0 0, .agg #[.slice none 0 0, .slice none 0 0, .int .i64 0], .int .i64 2]) (by simp only [set3] at y0 y1 y2; simp [results, Tryd.results20, go_sem, y0, y1, y2]) rfl ?_
    rw [show ansW seed own half m = (2, [], [], [], 0) from (by unfold ansW; rw [if_pos (fun h => HN.out h.1)])]
    exact ⟨_, _, rfl, bs_nil _ _, ⟨_, _, rfl, bs_nil _ _, bs_nil _ _⟩, OUT.out w0 _ _ _ (Below.refl _ _)⟩
set_option maxRecDepth 100000 in
set_option maxHeartbeats 4000000 in
theorem rfinish_any (vd vc vo vh vm : Value) (seed chip own half m : List UInt8) (w : World) (hK : KR w) (hd : Bs w w.heap.size vd seed) (hc : Bs w w.heap.size vc chip) (ho : Bs w w.heap.size vo own) (hh : Bs w w.heap.size vh half) (hm : Bs w w.heap.size vm m) :
    Calls Tryd.prog 23 #[vd, vc, vo, vh, vm] w (FinOut (fnsW seed chip own half m) w) := by
  obtain ⟨w0, hw0⟩ : ∃ w0, w0 = w.alloc (.cells #[.slice none 0 0, .slice none 0 0, .int .i64 0] 40) := ⟨_, rfl⟩
  have hB0 : Below w.heap.size w w0 := by rw [hw0]; exact (Below.refl _ _).alloc (Nat.le_refl _) _
  have hz0 : w0.heap.size = w.heap.size + 1 := by rw [hw0]; simp
  have hh0 : w0.heap[w.heap.size]? = some (.cells #[.slice none 0 0, .slice none 0 0, .int .i64 0] 40 (0, 0)) := by rw [hw0]; exact heap_alloc_new _ _
  have hlt0 := (Array.getElem?_eq_some_iff.1 hh0).1
  have FR := Lib.hid (fun (W : World) (hb : Below w0.heap.size w0 W) => sess3 ((hb.block w.heap.size hlt0).trans hh0))
  have RN := Lib.hid (fun (W : World) (a b c : Value) (hb : Below w0.heap.size w0 W) => sess3 (set3_row a b c ((hb.block w.heap.size hlt0).trans hh0)))
  have OUT := Lib.hid (fun (W : World) (a b c : Value) (hb : Below w0.heap.size w0 W) => (set3_below (a := a) (b := b) (c := c) (hB0.trans (hb.mono hB0.size)) (Nat.le_refl _) : Below w.heap.size w (set3 W w.heap.size a b c)))
  obtain ⟨da, dn, dc, rfl⟩ := hd.form
  obtain ⟨qa, qn, qc, rfl⟩ := hc.form
  obtain ⟨oa, on, oc, rfl⟩ := ho.form
  obtain ⟨ga, gn, gc, rfl⟩ := hh.form
  obtain ⟨ma, mn, mc, rfl⟩ := hm.form
  obtain rfl := Bs.lenEq hd
  obtain rfl := Bs.lenEq hc
  obtain rfl := Bs.lenEq ho
  obtain rfl := Bs.lenEq hh
  obtain rfl := Bs.lenEq hm
  have HW0 := Lib.hid hw0; have HB0 := Lib.hid hB0; have HZ0 := Lib.hid hz0
  have HD := Lib.hid (hd.lift hB0); have HC := Lib.hid (hc.lift hB0); have HO := Lib.hid (ho.lift hB0); have HH := Lib.hid (hh.lift hB0); have HM := Lib.hid (hm.lift hB0); have HKT := Lib.hid (hK.below hB0 hK.lt)
  clear hK hd hc ho hh hm hw0 hB0 hz0 hh0 hlt0
  by_cases hl0 : seed.length = 16
  · have t0 : ((seed.length : Int) != 16) = false := by simp; omega
    have HL0 := Lib.hid hl0
    clear hl0
    by_cases hl1 : chip.length = 8
    · have t1 : ((chip.length : Int) != 8) = false := by simp; omega
      have HL1 := Lib.hid hl1
      clear hl1
      by_cases hl2 : own.length = 8
      · have t2 : ((own.length : Int) != 8) = false := by simp; omega
        have HL2 := Lib.hid hl2
        clear hl2
        by_cases hl3 : half.length = 16
        · have t3 : ((half.length : Int) != 16) = false := by simp; omega
          have HL3 := Lib.hid hl3
          clear hl3
          by_cases hl4 : m.length = 40
          · have t4 : ((m.length : Int) != 40) = false := by simp; omega
            have HL4 := Lib.hid hl4
            clear hl4
            have HRD := Lib.hid (ropenm_any _ _ seed m w0 HKT.out HD.out HM.out (by have := HL0.out; omega) HL4.out)
            have HLP := Lib.hid (plainW_len seed m HL4.out)
            by_cases h3 : macOK seed m
            · have H3 := Lib.hid h3
              obtain ⟨o1, hoo1⟩ : ∃ o, decide ((plainW seed m).take 8 = chip) = o := ⟨_, rfl⟩
              obtain ⟨o2, hoo2⟩ : ∃ o, decide (((plainW seed m).drop 8).take 8 = own) = o := ⟨_, rfl⟩
              have HO1 := Lib.hid hoo1; have HO2 := Lib.hid hoo2
              clear h3 hoo1 hoo2
              cases o1 with
              | false =>
                go_enter Tryd.func23, Tryd.ntmps23
                go_upto_region 1 with fail
                rw [← HW0.out]
                go_upto_region 7 with (first
                  | (go_at_call 11; refine (same_any _ _ ((plainW seed m).take 8) chip _ _ w3 HS1.out (HC.out.lift HB3.out)).mono ?_; rintro e w4 ⟨rfl, ndw4, hw4⟩; rw [HO1.out]; have hb4 : Below w3.heap.size w3 w4 := (by rw [hw4]; exact below_drewN (Below.refl _ _) ndw4); have Hw4 := Lib.hid hb4; have Bw4 := Lib.hid (HB3.out.trans (hb4.mono HB3.out.size)); clear hb4 hw4)
                  | (go_at_call 35; refine HRD.out.mono ?_; rintro e w3 ⟨hb, hr⟩; obtain ⟨A1, c1, rfl, hs⟩ := (hr.resolve_left fun h => h.1 H3.out).2; obtain ⟨pb, po, hA1, hcl, hcu⟩ := bs_some hs (by omega); subst hA1; have hs' := bs_later hs (fun _ h => h.2) (Below.refl _ _); have HS1 : Hid (Bs w3 w3.heap.size (.slice (some ⟨pb, po, none⟩) 8 c1) ((plainW seed m).take 8)) := Lib.hid (BsS.cut hs' (by rw [HLP.out]; omega) (by omega) hcu); have HS2 : Hid (Bs w3 w3.heap.size (.slice (some ⟨pb, po + 8, none⟩) 8 (c1 - 8)) (((plainW seed m).drop 8).take 8)) := Lib.hid (BsS.mid hs' (by rw [HLP.out]; omega) (by omega) (by omega)); have HS3 : Hid (Bs w3 w3.heap.size (.slice (some ⟨pb, po + 16, none⟩) 16 (c1 - 16)) ((plainW seed m).drop 16)) := Lib.hid (by have h := BsS.mid (k := 16) (n := 16) (d := c1 - 16) hs' (by rw [HLP.out]; omega) (by omega) (by omega); rwa [List.take_of_length_le (by rw [List.length_drop, HLP.out]; omega)] at h); have HC1 := Lib.hid hcl; have hc8 : 8 < c1 := (by omega); have hc8n : ¬ c1 = 8 := (by omega); have hc16 : 16 < c1 := (by omega); have hc16n : ¬ c1 = 16 := (by omega); have HB3 := Lib.hid hb; clear hr hs hs' hb hcl hcu))
                obtain ⟨z0, z1, z2, zf⟩ := FR.out w4 Bw4.out
                have zf0 := zf 0; have zf1 := zf 1; have zf2 := zf 2
                obtain ⟨y0, y1, y2, _⟩ := RN.out w4 (.slice none 0 0) (.slice none 0 0) (.int .i64 0) Bw4.out
                clear zf
                go_wp2_with fail
                refine bodyPost_ret (v := .tuple #[.agg #[.slice none 0 0, .slice none 0 0, .int .i64 0], .int .i64 21]) (by simp only [set3] at y0 y1 y2; simp [results, Tryd.results23, go_sem, y0, y1, y2]) rfl ?_
                rw [show fnsW seed chip own half m = (21, [], [], 0) from (by unfold fnsW; rw [if_neg (fun h => h ⟨HL0.out, HL3.out, HL1.out, HL2.out, HL4.out⟩), if_neg (fun h => h H3.out), if_pos (fun h => of_decide_eq_false HO1.out h.1)])]
                exact ⟨_, rfl, ⟨_, _, rfl, bs_nil _ _, bs_nil _ _⟩, OUT.out w4 _ _ _ Bw4.out⟩
              | true =>
                cases o2 with
                | false =>
                  go_enter Tryd.func23, Tryd.ntmps23
                  go_upto_region 1 with fail
                  rw [← HW0.out]
                  go_upto_region 7 with (first
                    | (go_at_call 11; refine (same_any _ _ (((plainW seed m).drop 8).take 8) own _ _ w4 (HS2.out.lift Hw4.out) (HO.out.lift Bw4.out)).mono ?_; rintro e w5 ⟨rfl, ndw5, hw4⟩; rw [HO2.out]; have hb4 : Below w4.heap.size w4 w5 := (by rw [hw4]; exact below_drewN (Below.refl _ _) ndw5); have Hw5 := Lib.hid hb4; have Bw5 := Lib.hid (Bw4.out.trans (hb4.mono Bw4.out.size)); clear hb4 hw4)
                    | (go_at_call 11; refine (same_any _ _ ((plainW seed m).take 8) chip _ _ w3 HS1.out (HC.out.lift HB3.out)).mono ?_; rintro e w4 ⟨rfl, ndw4, hw4⟩; rw [HO1.out]; have hb4 : Below w3.heap.size w3 w4 := (by rw [hw4]; exact below_drewN (Below.refl _ _) ndw4); have Hw4 := Lib.hid hb4; have Bw4 := Lib.hid (HB3.out.trans (hb4.mono HB3.out.size)); clear hb4 hw4)
                    | (go_at_call 35; refine HRD.out.mono ?_; rintro e w3 ⟨hb, hr⟩; obtain ⟨A1, c1, rfl, hs⟩ := (hr.resolve_left fun h => h.1 H3.out).2; obtain ⟨pb, po, hA1, hcl, hcu⟩ := bs_some hs (by omega); subst hA1; have hs' := bs_later hs (fun _ h => h.2) (Below.refl _ _); have HS1 : Hid (Bs w3 w3.heap.size (.slice (some ⟨pb, po, none⟩) 8 c1) ((plainW seed m).take 8)) := Lib.hid (BsS.cut hs' (by rw [HLP.out]; omega) (by omega) hcu); have HS2 : Hid (Bs w3 w3.heap.size (.slice (some ⟨pb, po + 8, none⟩) 8 (c1 - 8)) (((plainW seed m).drop 8).take 8)) := Lib.hid (BsS.mid hs' (by rw [HLP.out]; omega) (by omega) (by omega)); have HS3 : Hid (Bs w3 w3.heap.size (.slice (some ⟨pb, po + 16, none⟩) 16 (c1 - 16)) ((plainW seed m).drop 16)) := Lib.hid (by have h := BsS.mid (k := 16) (n := 16) (d := c1 - 16) hs' (by rw [HLP.out]; omega) (by omega) (by omega); rwa [List.take_of_length_le (by rw [List.length_drop, HLP.out]; omega)] at h); have HC1 := Lib.hid hcl; have hc8 : 8 < c1 := (by omega); have hc8n : ¬ c1 = 8 := (by omega); have hc16 : 16 < c1 := (by omega); have hc16n : ¬ c1 = 16 := (by omega); have HB3 := Lib.hid hb; clear hr hs hs' hb hcl hcu))
                  obtain ⟨z0, z1, z2, zf⟩ := FR.out w5 Bw5.out
                  have zf0 := zf 0; have zf1 := zf 1; have zf2 := zf 2
                  obtain ⟨y0, y1, y2, _⟩ := RN.out w5 (.slice none 0 0) (.slice none 0 0) (.int .i64 0) Bw5.out
                  clear zf
                  go_wp2_with fail
                  refine bodyPost_ret (v := .tuple #[.agg #[.slice none 0 0, .slice none 0 0, .int .i64 0], .int .i64 21]) (by simp only [set3] at y0 y1 y2; simp [results, Tryd.results23, go_sem, y0, y1, y2]) rfl ?_
                  rw [show fnsW seed chip own half m = (21, [], [], 0) from (by unfold fnsW; rw [if_neg (fun h => h ⟨HL0.out, HL3.out, HL1.out, HL2.out, HL4.out⟩), if_neg (fun h => h H3.out), if_pos (fun h => of_decide_eq_false HO2.out h.2)])]
                  exact ⟨_, rfl, ⟨_, _, rfl, bs_nil _ _, bs_nil _ _⟩, OUT.out w5 _ _ _ Bw5.out⟩
                | true =>
                  have HE : Hid (fnsW seed chip own half m = (0, sesW half ((plainW seed m).drop 16) chip own)) := Lib.hid (by unfold fnsW; rw [if_neg (fun h => h ⟨HL0.out, HL3.out, HL1.out, HL2.out, HL4.out⟩), if_neg (fun h => h H3.out), if_neg (fun h => h ⟨of_decide_eq_true HO1.out, of_decide_eq_true HO2.out⟩)])
                  go_enter Tryd.func23, Tryd.ntmps23
                  go_upto_region 1 with fail
                  rw [← HW0.out]
                  go_wp2_with (first
                    | (go_at_call 36; refine (rsession_any _ _ _ _ half ((plainW seed m).drop 16) chip own w5 (HKT.out.below Bw5.out HKT.out.lt) (HH.out.lift Bw5.out) (HS3.out.lift (Hw4.out.trans (Hw5.out.mono Hw4.out.size))) (HC.out.lift Bw5.out) (HO.out.lift Bw5.out) HL3.out (by rw [List.length_drop, HLP.out]) HL1.out HL2.out).mono ?_; rintro e w1 ⟨v6, rfl, ⟨X1, x1, X2, x2, rfl, hx1, hx2⟩, hb⟩; have HX1 := Lib.hid hx1; have HX2 := Lib.hid hx2; have HJ := Lib.hid hb; have hb6 : Below w0.heap.size w0 w1 := Bw5.out.trans (hb.mono Bw5.out.size); have HBZ := Lib.hid hb6; obtain ⟨z0, z1, z2, zf⟩ := FR.out w1 hb6; have zf0 := zf 0; have zf1 := zf 1; have zf2 := zf 2; obtain ⟨y0, y1, y2, _⟩ := RN.out w1 (.slice X1 16 x1) (.slice X2 16 x2) (.int .i64 (numS chip own)) hb6; clear zf hx1 hx2 hb hb6)
                    | (go_at_call 11; refine (same_any _ _ (((plainW seed m).drop 8).take 8) own _ _ w4 (HS2.out.lift Hw4.out) (HO.out.lift Bw4.out)).mono ?_; rintro e w5 ⟨rfl, ndw5, hw4⟩; rw [HO2.out]; have hb4 : Below w4.heap.size w4 w5 := (by rw [hw4]; exact below_drewN (Below.refl _ _) ndw5); have Hw5 := Lib.hid hb4; have Bw5 := Lib.hid (Bw4.out.trans (hb4.mono Bw4.out.size)); clear hb4 hw4)
                    | (go_at_call 11; refine (same_any _ _ ((plainW seed m).take 8) chip _ _ w3 HS1.out (HC.out.lift HB3.out)).mono ?_; rintro e w4 ⟨rfl, ndw4, hw4⟩; rw [HO1.out]; have hb4 : Below w3.heap.size w3 w4 := (by rw [hw4]; exact below_drewN (Below.refl _ _) ndw4); have Hw4 := Lib.hid hb4; have Bw4 := Lib.hid (HB3.out.trans (hb4.mono HB3.out.size)); clear hb4 hw4)
                    | (go_at_call 35; refine HRD.out.mono ?_; rintro e w3 ⟨hb, hr⟩; obtain ⟨A1, c1, rfl, hs⟩ := (hr.resolve_left fun h => h.1 H3.out).2; obtain ⟨pb, po, hA1, hcl, hcu⟩ := bs_some hs (by omega); subst hA1; have hs' := bs_later hs (fun _ h => h.2) (Below.refl _ _); have HS1 : Hid (Bs w3 w3.heap.size (.slice (some ⟨pb, po, none⟩) 8 c1) ((plainW seed m).take 8)) := Lib.hid (BsS.cut hs' (by rw [HLP.out]; omega) (by omega) hcu); have HS2 : Hid (Bs w3 w3.heap.size (.slice (some ⟨pb, po + 8, none⟩) 8 (c1 - 8)) (((plainW seed m).drop 8).take 8)) := Lib.hid (BsS.mid hs' (by rw [HLP.out]; omega) (by omega) (by omega)); have HS3 : Hid (Bs w3 w3.heap.size (.slice (some ⟨pb, po + 16, none⟩) 16 (c1 - 16)) ((plainW seed m).drop 16)) := Lib.hid (by have h := BsS.mid (k := 16) (n := 16) (d := c1 - 16) hs' (by rw [HLP.out]; omega) (by omega) (by omega); rwa [List.take_of_length_le (by rw [List.length_drop, HLP.out]; omega)] at h); have HC1 := Lib.hid hcl; have hc8 : 8 < c1 := (by omega); have hc8n : ¬ c1 = 8 := (by omega); have hc16 : 16 < c1 := (by omega); have hc16n : ¬ c1 = 16 := (by omega); have HB3 := Lib.hid hb; clear hr hs hs' hb hcl hcu))
                  refine bodyPost_ret (v := .tuple #[.agg #[.slice X1 16 x1, .slice X2 16 x2, .int .i64 (numS chip own)], .int .i64 0]) (by simp only [set3] at y0 y1 y2; simp [results, Tryd.results23, go_sem, y0, y1, y2]) rfl ?_
                  rw [HE.out]
                  have s4 := Hw4.out.size; have s5 := Hw5.out.size
                  have s0 := HZ0.out; have s3 := HB3.out.size; have s6 := HJ.out.size
                  have hsz : (set3 w1 w.heap.size (.slice X1 16 x1) (.slice X2 16 x2) (.int .i64 (numS chip own))).heap.size = w1.heap.size := by simp [set3]
                  have hlt : ∀ g, g < w1.heap.size → g < (set3 w1 w.heap.size (.slice X1 16 x1) (.slice X2 16 x2) (.int .i64 (numS chip own))).heap.size := fun g h => by rw [hsz]; exact h
                  refine ⟨_, rfl, ⟨_, _, rfl, ?_, ?_⟩, OUT.out w1 _ _ _ HBZ.out⟩
                  · exact BsS.keep HX1.out fun g hg hl => ⟨set3_other (by have := hg.1; omega), by have := hg.1; omega, hlt g hg.2⟩
                  · exact BsS.keep HX2.out fun g hg hl => ⟨set3_other (by have := hg.1; omega), by have := hg.1; omega, hlt g hg.2⟩
            · have H3 := Lib.hid h3
              clear h3
              go_enter Tryd.func23, Tryd.ntmps23
              go_upto_region 1 with fail
              rw [← HW0.out]
              go_upto_region 5 with (go_at_call 35; refine HRD.out.mono ?_; rintro e w3 ⟨hb, hr⟩; obtain rfl := (hr.resolve_right fun h => H3.out h.1).2; have HB3 := Lib.hid hb; clear hr hb)
              obtain ⟨z0, z1, z2, zf⟩ := FR.out w3 HB3.out
              have zf0 := zf 0; have zf1 := zf 1; have zf2 := zf 2
              obtain ⟨y0, y1, y2, _⟩ := RN.out w3 (.slice none 0 0) (.slice none 0 0) (.int .i64 0) HB3.out
              clear zf
              go_wp2_with fail
              refine bodyPost_ret (v := .tuple #[.agg #[.slice none 0 0, .slice none 0 0, .int .i64 0], .int .i64 20]) (by simp only [set3] at y0 y1 y2; simp [results, Tryd.results23, go_sem, y0, y1, y2]) rfl ?_
              rw [show fnsW seed chip own half m = (20, [], [], 0) from (by unfold fnsW; rw [if_neg (fun h => h ⟨HL0.out, HL3.out, HL1.out, HL2.out, HL4.out⟩), if_pos H3.out])]
              exact ⟨_, rfl, ⟨_, _, rfl, bs_nil _ _, bs_nil _ _⟩, OUT.out w3 _ _ _ HB3.out⟩
          · have t4 : ((m.length : Int) != 40) = true := by simp; omega
            have HN := Lib.hid hl4
            clear hl4
            go_enter Tryd.func23, Tryd.ntmps23
            go_upto_region 1 with fail
            rw [← HW0.out]
            obtain ⟨z0, z1, z2, zf⟩ := FR.out w0 (Below.refl _ _)
            have zf0 := zf 0; have zf1 := zf 1; have zf2 := zf 2
            obtain ⟨y0, y1, y2, _⟩ := RN.out w0 (.slice none 0 0) (.slice none 0 0) (.int .i64 0) (Below.refl _ _)
            clear zf
            go_wp2_with fail
            refine bodyPost_ret (v := .tuple #[.agg #[.slice none 0 0, .slice none 0 0, .int .i64 0], .int .i64 2]) (by simp only [set3] at y0 y1 y2; simp [results, Tryd.results23, go_sem, y0, y1, y2]) rfl ?_
            rw [show fnsW seed chip own half m = (2, [], [], 0) from (by unfold fnsW; rw [if_pos (fun h => HN.out h.2.2.2.2)])]
            exact ⟨_, rfl, ⟨_, _, rfl, bs_nil _ _, bs_nil _ _⟩, OUT.out w0 _ _ _ (Below.refl _ _)⟩
        · have t3 : ((half.length : Int) != 16) = true := by simp; omega
          have HN := Lib.hid hl3
          clear hl3
          go_enter Tryd.func23, Tryd.ntmps23
          go_upto_region 1 with fail
          rw [← HW0.out]
          obtain ⟨z0, z1, z2, zf⟩ := FR.out w0 (Below.refl _ _)
          have zf0 := zf 0; have zf1 := zf 1; have zf2 := zf 2
          obtain ⟨y0, y1, y2, _⟩ := RN.out w0 (.slice none 0 0) (.slice none 0 0) (.int .i64 0) (Below.refl _ _)
          clear zf
          go_wp2_with fail
          refine bodyPost_ret (v := .tuple #[.agg #[.slice none 0 0, .slice none 0 0, .int .i64 0], .int .i64 2]) (by simp only [set3] at y0 y1 y2; simp [results, Tryd.results23, go_sem, y0, y1, y2]) rfl ?_
          rw [show fnsW seed chip own half m = (2, [], [], 0) from (by unfold fnsW; rw [if_pos (fun h => HN.out h.2.1)])]
          exact ⟨_, rfl, ⟨_, _, rfl, bs_nil _ _, bs_nil _ _⟩, OUT.out w0 _ _ _ (Below.refl _ _)⟩
      · have t2 : ((own.length : Int) != 8) = true := by simp; omega
        have HN := Lib.hid hl2
        clear hl2
        go_enter Tryd.func23, Tryd.ntmps23
        go_upto_region 1 with fail
        rw [← HW0.out]
        obtain ⟨z0, z1, z2, zf⟩ := FR.out w0 (Below.refl _ _)
        have zf0 := zf 0; have zf1 := zf 1; have zf2 := zf 2
        obtain ⟨y0, y1, y2, _⟩ := RN.out w0 (.slice none 0 0) (.slice none 0 0) (.int .i64 0) (Below.refl _ _)
        clear zf
        go_wp2_with fail
        refine bodyPost_ret (v := .tuple #[.agg #[.slice none 0 0, .slice none 0 0, .int .i64 0], .int .i64 2]) (by simp only [set3] at y0 y1 y2; simp [results, Tryd.results23, go_sem, y0, y1, y2]) rfl ?_
        rw [show fnsW seed chip own half m = (2, [], [], 0) from (by unfold fnsW; rw [if_pos (fun h => HN.out h.2.2.2.1)])]
        exact ⟨_, rfl, ⟨_, _, rfl, bs_nil _ _, bs_nil _ _⟩, OUT.out w0 _ _ _ (Below.refl _ _)⟩
    · have t1 : ((chip.length : Int) != 8) = true := by simp; omega
      have HN := Lib.hid hl1
      clear hl1
      go_enter Tryd.func23, Tryd.ntmps23
      go_upto_region 1 with fail
      rw [← HW0.out]
      obtain ⟨z0, z1, z2, zf⟩ := FR.out w0 (Below.refl _ _)
      have zf0 := zf 0; have zf1 := zf 1; have zf2 := zf 2
      obtain ⟨y0, y1, y2, _⟩ := RN.out w0 (.slice none 0 0) (.slice none 0 0) (.int .i64 0) (Below.refl _ _)
      clear zf
      go_wp2_with fail
      refine bodyPost_ret (v := .tuple #[.agg #[.slice none 0 0, .slice none 0 0, .int .i64 0], .int .i64 2]) (by simp only [set3] at y0 y1 y2; simp [results, Tryd.results23, go_sem, y0, y1, y2]) rfl ?_
      rw [show fnsW seed chip own half m = (2, [], [], 0) from (by unfold fnsW; rw [if_pos (fun h => HN.out h.2.2.1)])]
      exact ⟨_, rfl, ⟨_, _, rfl, bs_nil _ _, bs_nil _ _⟩, OUT.out w0 _ _ _ (Below.refl _ _)⟩
  · have t0 : ((seed.length : Int) != 16) = true := by simp; omega
    have HN := Lib.hid hl0
    clear hl0
    go_enter Tryd.func23, Tryd.ntmps23
    go_upto_region 1 with fail
    rw [← HW0.out]
    obtain ⟨z0, z1, z2, zf⟩ := FR.out w0 (Below.refl _ _)
    have zf0 := zf 0; have zf1 := zf 1; have zf2 := zf 2
    obtain ⟨y0, y1, y2, _⟩ := RN.out w0 (.slice none 0 0) (.slice none 0 0) (.int .i64 0) (Below.refl _ _)
    clear zf
    go_wp2_with fail
    refine bodyPost_ret (v := .tuple #[.agg #[.slice none 0 0, .slice none 0 0, .int .i64 0], .int .i64 2]) (by simp only [set3] at y0 y1 y2; simp [results, Tryd.results23, go_sem, y0, y1, y2]) rfl ?_
    rw [show fnsW seed chip own half m = (2, [], [], 0) from (by unfold fnsW; rw [if_pos (fun h => HN.out h.1)])]
    exact ⟨_, rfl, ⟨_, _, rfl, bs_nil _ _, bs_nil _ _⟩, OUT.out w0 _ _ _ (Below.refl _ _)⟩
end Go.Proofs.YtjbmmdcnccclaaaDoor
