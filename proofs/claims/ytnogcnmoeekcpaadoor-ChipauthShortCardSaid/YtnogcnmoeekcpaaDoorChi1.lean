/- Chip authentication: Short, the session, the token, both sides. -/
import Derived.Test.YtnogcnmoeekcpaaDoorGrpE
import Derived.Test.YtnogcnmoeekcpaaDoorQKey
import Derived.Test.YtnogcnmoeekcpaaDoorCode2
import Derived.Test.YtnogcnmoeekcpaaDoorSes0
namespace Go.Proofs.YtnogcnmoeekcpaaDoor
open Go.RowKit Go.Deep

theorem fourO_len (x : Int) : (fourO x).length = 4 := rfl
theorem csecret_any (k : Int) (w : World) : Calls Tryd.prog 18 #[.int .i64 k] w fun e w' => e = .returned (.bool (okS k)) ∧ w' = w := by
  unfold okS
  go_enter Tryd.func18, Tryd.ntmps18
  by_cases h : 1 ≤ k <;> by_cases h2 : k < 1073741789 <;> (go_wp2_with fail; go_ret; exact ⟨by simp [h, h2], rfl⟩)
theorem rcsecret_any (k : Int) (w : World) : Calls Tryd.prog 23 #[.int .i64 k] w fun e w' => e = .returned (.bool (okS k)) ∧ w' = w := by
  have h3 : okS k = (decide (1 ≤ k) && decide (k ≤ 1073741788)) := by
    unfold okS
    rw [← Bool.decide_and]
    exact decide_eq_decide.2 ⟨fun h => ⟨h.1, by omega⟩, fun h => ⟨h.1, by omega⟩⟩
  rw [h3]
  clear h3
  go_enter Tryd.func23, Tryd.ntmps23
  by_cases h : 1 ≤ k <;> by_cases h2 : k ≤ 1073741788 <;> (go_wp2_with fail; go_ret; exact ⟨by simp [h, h2], rfl⟩)
/-- The digest of an element. -/
def shortW (x : Int) : List UInt8 := (sumW (fourO x)).take 8
theorem shortW_len (x : Int) : (shortW x).length = 8 := by unfold shortW; rw [List.length_take, sumW_len]; rfl
set_option maxRecDepth 100000 in
set_option maxHeartbeats 1000000 in
theorem short_good (x : Int) (h : elemP x = true) (w : World) (hK : KD w) : Calls Tryd.prog 16 #[.int .i64 x] w fun e w' => ∃ v', e = .returned (.tuple #[v', .int .i64 0]) ∧ BsS w' (New w w') v' (shortW x) ∧ Below w.heap.size w w' := by
  have HE := Lib.hid (gencode_good x h)
  have HM := Lib.hid (elem_any x)
  rw [h] at HM
  have HK := Lib.hid hK
  clear h hK
  go_enter Tryd.func16, Tryd.ntmps16
  go_wp2_with (first
    | (go_at_call 32; refine (sum_any _ (fourO x) (by simp [fourO]) w1 (HK.out.below HB1.out HK.out.lt) HS1.out).mono ?_; rintro e w2 ⟨v2, rfl, hs, hb2⟩; obtain ⟨A2, c2, hv2, hc2, hc2'⟩ : ∃ A c, v2 = .slice A 32 c ∧ 32 ≤ c ∧ c ≤ 9223372036854775807 := (by obtain ⟨a, c, e, h1, h2, _⟩ := hs; rw [sumW_len] at e h1; exact ⟨a, c, e, h1, h2⟩); subst hv2; have HS2 : Hid (Bs w2 w2.heap.size (.slice A2 8 c2) (shortW x)) := Lib.hid (BsS.keep (BsS.cut hs (k := 8) (d := c2) (by rw [sumW_len]; omega) (by omega) (by omega)) fun g hg _ => ⟨rfl, hg.2⟩); have HB2 := Lib.hid (HB1.out.trans (hb2.mono HB1.out.size)); clear hs hb2)
    | (go_at_call 19; refine (HM.out _).mono ?_; rintro e w' ⟨rfl, hw'⟩; rw [hw']; clear hw' w')
    | (go_at_call 31; refine (HE.out w).mono ?_; rintro e w1 ⟨v1, rfl, ho, hb1⟩; obtain ⟨A1, c1, hv1⟩ := ho.form; rw [fourO_len] at hv1; have HS1 : Hid (Bs w1 w1.heap.size v1 (fourO x)) := Lib.hid (OwnB.bs ho (by simp [fourO])); subst hv1; have HB1 := Lib.hid hb1; clear ho hb1)
    | (at_builtin; (with_reducible refine wpList_more rfl (.const (.slice none 0 0)) (.tmp 20) rfl w2.heap.size (.slice none 0 0) [] rfl (OwnB.nil _ _) A2 8 c2 (shortW x) (· < w2.heap.size) rfl HS2.out (by rw [shortW_len]; simp) (Nat.le_refl _) ?_); intro v3 w3 hgr; rw [List.nil_append] at hgr; have HG := Lib.hid hgr; clear hgr))
  go_ret2
  exact ⟨_, rfl, (HG.out.1.out (by rw [shortW_len]; omega) w (Nat.le_trans HB2.out.size (Nat.le_refl _))), HB2.out.trans (HG.out.2.1.mono HB2.out.size)⟩
set_option maxRecDepth 100000 in
theorem short_bad (x : Int) (h : elemP x = false) (w : World) : Calls Tryd.prog 16 #[.int .i64 x] w fun e w' => e = .returned (.tuple #[.slice none 0 0, .int .i64 10]) ∧ w' = w := by
  have HE := Lib.hid (gencode_bad x h w)
  clear h
  go_enter Tryd.func16, Tryd.ntmps16
  go_wp2_with (go_at_call 31; refine HE.out.mono ?_; rintro e w' ⟨rfl, hw'⟩; rw [hw']; clear hw' w')
  go_ret2
  exact ⟨rfl, rfl⟩
set_option maxRecDepth 100000 in
set_option maxHeartbeats 1000000 in
theorem rshort_good (x : Int) (h : elemP x = true) (w : World) (hK : KR w) : Calls Tryd.prog 17 #[.int .i64 x] w fun e w' => ∃ v', e = .returned (.tuple #[v', .int .i64 0]) ∧ BsS w' (New w w') v' (shortW x) ∧ Below w.heap.size w w' := by
  have HE := Lib.hid (rgencode_good x h)
  have HK := Lib.hid hK
  clear h hK
  go_enter Tryd.func17, Tryd.ntmps17
  go_wp2_with (first
    | (go_at_call 34; refine (rsum_any _ (fourO x) (by simp [fourO]) w1 (HK.out.below HB1.out HK.out.lt) HS1.out).mono ?_; rintro e w2 ⟨v2, rfl, hs, hb2⟩; obtain ⟨A2, c2, hv2, hc2, hc2'⟩ : ∃ A c, v2 = .slice A 32 c ∧ 32 ≤ c ∧ c ≤ 9223372036854775807 := (by obtain ⟨a, c, e, h1, h2, _⟩ := hs; rw [sumW_len] at e h1; exact ⟨a, c, e, h1, h2⟩); subst hv2; have HS2 : Hid (BsS w2 (New w w2) (.slice A2 8 c2) (shortW x)) := Lib.hid (BsS.keep (BsS.cut hs (k := 8) (d := c2) (by rw [sumW_len]; omega) (by omega) (by omega)) fun g hg _ => ⟨rfl, Nat.le_trans HB1.out.size hg.1, hg.2⟩); have HB2 := Lib.hid (HB1.out.trans (hb2.mono HB1.out.size)); clear hs hb2)
    | (go_at_call 33; refine (HE.out w).mono ?_; rintro e w1 ⟨v1, rfl, hs, hb1⟩; obtain ⟨A1, c1, hv1⟩ : ∃ A c, v1 = .slice A 4 c := (by obtain ⟨a, c, e, _⟩ := hs; exact ⟨a, c, e⟩); subst hv1; have HS1 : Hid (Bs w1 w1.heap.size (.slice A1 4 c1) (fourO x)) := Lib.hid (BsS.keep hs fun g hg _ => ⟨rfl, hg.2⟩); have HB1 := Lib.hid hb1; clear hs hb1))
  go_ret2
  exact ⟨_, rfl, HS2.out, HB2.out⟩
set_option maxRecDepth 100000 in
theorem rshort_bad (x : Int) (h : elemP x = false) (w : World) : Calls Tryd.prog 17 #[.int .i64 x] w fun e w' => e = .returned (.tuple #[.slice none 0 0, .int .i64 10]) ∧ w' = w := by
  have HE := Lib.hid (rgencode_bad x h w)
  clear h
  go_enter Tryd.func17, Tryd.ntmps17
  go_wp2_with (go_at_call 33; refine HE.out.mono ?_; rintro e w' ⟨rfl, hw'⟩; rw [hw']; clear hw' w')
  go_ret2
  exact ⟨rfl, rfl⟩
/-- Two keys and the number 0: a session in new blocks. -/
def SesN (w0 w : World) (v : Value) (k1 k2 : List UInt8) : Prop := ∃ A c B d, v = .agg #[.slice A 16 c, .slice B 16 d, .int .i64 0] ∧ BsS w (New w0 w) (.slice A 16 c) k1 ∧ BsS w (New w0 w) (.slice B 16 d) k2
theorem SesN.l {w0 w : World} {v : Value} {k1 k2 : List UInt8} (h : SesN w0 w v k1 k2) : SessL w (New w0 w) v k1 k2 0 := by
  obtain ⟨A, c, B, d, e, h1, h2⟩ := h
  exact ⟨_, _, e, h1, h2⟩
def secW (x : Int) (n : List UInt8) : List UInt8 := fourO x ++ n
theorem secW_len (x : Int) {n : List UInt8} (h : n.length = 8) : (secW x n).length = 12 := by unfold secW; rw [List.length_append, h]; rfl
set_option maxRecDepth 100000 in
set_option maxHeartbeats 2000000 in
theorem csession_any (x : Int) (h : elemP x = true) (v : Value) (n : List UInt8) (hn : n.length = 8) (w : World) (hK : KD w) (hv : Bs w w.heap.size v n) :
    Calls Tryd.prog 21 #[.int .i64 x, v] w fun e w' => ∃ s, e = .returned (.tuple #[s, .int .i64 0]) ∧ SesN w w' s (keyW (secW x n) 1) (keyW (secW x n) 2) ∧ Below w.heap.size w w' := by
  obtain ⟨w0, hw0⟩ : ∃ w0, w0 = w.alloc (.cells #[.slice none 0 0, .slice none 0 0, .int .i64 0] 25) := ⟨_, rfl⟩
  have hB0 : Below w.heap.size w w0 := by rw [hw0]; exact (Below.refl _ _).alloc (Nat.le_refl _) _
  have hz0 : w0.heap.size = w.heap.size + 1 := by rw [hw0]; simp
  have hh0 : w0.heap[w.heap.size]? = some (.cells #[.slice none 0 0, .slice none 0 0, .int .i64 0] 25 (0, 0)) := by rw [hw0]; exact heap_alloc_new _ _
  have hlt0 := (Array.getElem?_eq_some_iff.1 hh0).1
  have FR := Lib.hid (fun (W : World) (hb : Below w0.heap.size w0 W) => sess3 ((hb.block w.heap.size hlt0).trans hh0))
  have RN := Lib.hid (fun (W : World) (a b c : Value) (hb : Below w0.heap.size w0 W) => sess3 (set3_row a b c ((hb.block w.heap.size hlt0).trans hh0)))
  have OUT := Lib.hid (fun (W : World) (a b c : Value) (hb : Below w0.heap.size w0 W) => (set3_below (a := a) (b := b) (c := c) (hB0.trans (hb.mono hB0.size)) (Nat.le_refl _) : Below w.heap.size w (set3 W w.heap.size a b c)))
  obtain ⟨A, m, c, rfl⟩ := hv.form
  obtain rfl : m = 8 := by rw [Bs.lenEq hv]; exact hn
  have HE := Lib.hid (gencode_good x h)
  have HN := Lib.hid hn
  have HV := Lib.hid (hv.lift hB0)
  have HK := Lib.hid (hK.below hB0 hK.lt)
  have HW0 := Lib.hid hw0; have HB0 := Lib.hid hB0; have HZ0 := Lib.hid hz0
  have HSL := Lib.hid (secW_len x hn)
  clear h hK hv hn hw0 hB0 hz0 hh0 hlt0
  go_enter Tryd.func21, Tryd.ntmps21
  go_upto_region 1 with fail
  rw [← HW0.out]
  go_wp2_with (first
    | (go_at_call 38; refine (dkey_any 2 (by omega) (by omega) _ (secW x n) w3 (HK.out.below HB3.out HK.out.lt) HS3.out (by rw [HSL.out]; omega)).mono ?_; rintro e w4 ⟨v4, rfl, hs, hb⟩; obtain ⟨A4, c4, hv4⟩ : ∃ A c, v4 = .slice A 16 c := (by obtain ⟨a, c, e, _⟩ := hs; rw [keyW_len] at e; exact ⟨a, c, e⟩); subst hv4; have h4 : Below w0.heap.size w0 w4 := HB3.out.trans (hb.mono HB3.out.size); have HK1 := Lib.hid (BsS.keep HK1.out (w' := w4) (S' := New w0 w4) fun g hg hl => ⟨hb.block g hl, hg.1, Nat.lt_of_lt_of_le hl hb.size⟩); have HK2 : Hid (BsS w4 (New w0 w4) (.slice A4 16 c4) (keyW (secW x n) 2)) := Lib.hid (BsS.keep hs fun g hg _ => ⟨rfl, Nat.le_trans HB3.out.size hg.1, hg.2⟩); have HB4 := Lib.hid h4; obtain ⟨z0, z1, z2, zf⟩ := FR.out w4 h4; have zf0 := zf 0; have zf1 := zf 1; have zf2 := zf 2; obtain ⟨y0, y1, y2, _⟩ := RN.out w4 (.slice A3 16 c3) (.slice A4 16 c4) (.int .i64 0) h4; clear zf hs hb h4)
    | (go_at_call 38; refine (dkey_any 1 (by omega) (by omega) _ (secW x n) w2 (HK.out.below HB2.out HK.out.lt) HS2.out (by rw [HSL.out]; omega)).mono ?_; rintro e w3 ⟨v3, rfl, hs, hb⟩; obtain ⟨A3, c3, hv3⟩ : ∃ A c, v3 = .slice A 16 c := (by obtain ⟨a, c, e, _⟩ := hs; rw [keyW_len] at e; exact ⟨a, c, e⟩); subst hv3; have HK1 : Hid (BsS w3 (New w0 w3) (.slice A3 16 c3) (keyW (secW x n) 1)) := Lib.hid (BsS.keep hs fun g hg _ => ⟨rfl, Nat.le_trans HB2.out.size hg.1, hg.2⟩); have HS3 := Lib.hid (HS2.out.lift hb); have HB3 := Lib.hid (HB2.out.trans (hb.mono HB2.out.size)); clear hs hb)
    | (go_at_call 31; refine (HE.out w0).mono ?_; rintro e w1 ⟨v1, rfl, ho, hb1⟩; obtain ⟨A1, c1, hv1⟩ := ho.form; rw [fourO_len] at hv1; subst hv1; have HO1 := Lib.hid ho; have HV1 := Lib.hid (HV.out.lift hb1); have HB1 := Lib.hid hb1; clear ho hb1)
    | (at_builtin; (with_reducible refine wpList_more rfl (.tmp 19) (.tmp 20) rfl w0.heap.size (.slice A1 4 c1) (fourO x) rfl HO1.out A 8 c n (· < w1.heap.size) rfl HV1.out (by rw [HN.out]; simp [fourO]) HB1.out.size ?_); intro v2 w2 hgr; have HS2 : Hid (Bs w2 w2.heap.size v2 (secW x n)) := Lib.hid ((hgr.1.out (by show (secW x n).length ≤ _; rw [HSL.out]; omega) w0 (Nat.le_refl _)).keep fun g hg _ => ⟨rfl, hg.2⟩); obtain ⟨A2, c2, hv2⟩ : ∃ A c, v2 = .slice A (fourO x ++ n).length c := hgr.1.form; rw [show (fourO x ++ n).length = 12 from HSL.out] at hv2; subst hv2; have HB2 := Lib.hid (HB1.out.trans hgr.2.1); clear hgr))
  refine bodyPost_ret (v := .tuple #[.agg #[.slice A3 16 c3, .slice A4 16 c4, .int .i64 0], .int .i64 0]) (by simp only [set3] at y0 y1 y2; simp [results, Tryd.results21, go_sem, y0, y1, y2]) rfl ?_
  have s0 := HZ0.out
  have hsz : (set3 w4 w.heap.size (.slice A3 16 c3) (.slice A4 16 c4) (.int .i64 0)).heap.size = w4.heap.size := (by simp [set3]); have hlt : ∀ g, g < w4.heap.size → g < (set3 w4 w.heap.size (.slice A3 16 c3) (.slice A4 16 c4) (.int .i64 0)).heap.size := fun g h => by rw [hsz]; exact h
  refine ⟨_, rfl, ⟨_, _, _, _, rfl, ?_, ?_⟩, OUT.out w4 _ _ _ HB4.out⟩
  · exact BsS.keep HK1.out fun g hg hl => ⟨set3_other (by have := hg.1; omega), by have := hg.1; omega, hlt g hg.2⟩
  · exact BsS.keep HK2.out fun g hg hl => ⟨set3_other (by have := hg.1; omega), by have := hg.1; omega, hlt g hg.2⟩
theorem OwnB.lit0 (w : World) {base : Nat} (h : base ≤ w.heap.size) : OwnB (w.alloc (.cells #[] 5)) base (.slice (some ⟨w.heap.size, 0, none⟩) 0 0) [] :=
  ⟨rfl, .inr ⟨w.heap.size, 0, #[], rfl, h, heap_alloc_new _ _, Nat.le_refl _, by decide, rfl, rfl⟩⟩
set_option maxRecDepth 100000 in
set_option maxHeartbeats 2000000 in
theorem rcsession_any (x : Int) (h : elemP x = true) (v : Value) (n : List UInt8) (hn : n.length = 8) (w : World) (hK : KR w) (hv : Bs w w.heap.size v n) :
    Calls Tryd.prog 26 #[.int .i64 x, v] w fun e w' => ∃ s, e = .returned s ∧ SesN w w' s (keyW (secW x n) 1) (keyW (secW x n) 2) ∧ Below w.heap.size w w' := by
  obtain ⟨w0, hw0⟩ : ∃ w0, w0 = w.alloc (.cells #[.slice none 0 0, .slice none 0 0, .int .i64 0] 25) := ⟨_, rfl⟩
  have hB0 : Below w.heap.size w w0 := by rw [hw0]; exact (Below.refl _ _).alloc (Nat.le_refl _) _
  have hz0 : w0.heap.size = w.heap.size + 1 := by rw [hw0]; simp
  have hh0 : w0.heap[w.heap.size]? = some (.cells #[.slice none 0 0, .slice none 0 0, .int .i64 0] 25 (0, 0)) := by rw [hw0]; exact heap_alloc_new _ _
  have hlt0 := (Array.getElem?_eq_some_iff.1 hh0).1
  have FR := Lib.hid (fun (W : World) (hb : Below w0.heap.size w0 W) => sess3 ((hb.block w.heap.size hlt0).trans hh0))
  have RN := Lib.hid (fun (W : World) (a b c : Value) (hb : Below w0.heap.size w0 W) => sess3 (set3_row a b c ((hb.block w.heap.size hlt0).trans hh0)))
  have OUT := Lib.hid (fun (W : World) (a b c : Value) (hb : Below w0.heap.size w0 W) => (set3_below (a := a) (b := b) (c := c) (hB0.trans (hb.mono hB0.size)) (Nat.le_refl _) : Below w.heap.size w (set3 W w.heap.size a b c)))
  obtain ⟨A, m, c, rfl⟩ := hv.form
  obtain rfl : m = 8 := by rw [Bs.lenEq hv]; exact hn
  have HE := Lib.hid (rgencode_good x h)
  have HN := Lib.hid hn
  have HV := Lib.hid (hv.lift hB0)
  have HK := Lib.hid (hK.below hB0 hK.lt)
  have HW0 := Lib.hid hw0; have HB0 := Lib.hid hB0; have HZ0 := Lib.hid hz0
  have HSL := Lib.hid (secW_len x hn)
  clear h hK hv hn hw0 hB0 hz0 hh0 hlt0
  go_enter Tryd.func26, Tryd.ntmps26
  go_upto_region 1 with fail
  rw [← HW0.out]
  go_wp2_with (first
    | (go_at_call 43; refine (rdkey_any 2 (by omega) (by omega) _ (secW x n) w3 (HK.out.below HB3.out HK.out.lt) HS3.out (by rw [HSL.out]; omega)).mono ?_; rintro e w4 ⟨v4, rfl, hs, hb⟩; obtain ⟨A4, c4, hv4⟩ : ∃ A c, v4 = .slice A 16 c := (by obtain ⟨a, c, e, _⟩ := hs; rw [keyW_len] at e; exact ⟨a, c, e⟩); subst hv4; have h4 : Below w0.heap.size w0 w4 := HB3.out.trans (hb.mono HB3.out.size); have HK1 := Lib.hid (BsS.keep HK1.out (w' := w4) (S' := New w0 w4) fun g hg hl => ⟨hb.block g hl, hg.1, Nat.lt_of_lt_of_le hl hb.size⟩); have HK2 : Hid (BsS w4 (New w0 w4) (.slice A4 16 c4) (keyW (secW x n) 2)) := Lib.hid (BsS.keep hs fun g hg _ => ⟨rfl, Nat.le_trans HB3.out.size hg.1, hg.2⟩); have HB4 := Lib.hid h4; obtain ⟨z0, z1, z2, zf⟩ := FR.out w4 h4; have zf0 := zf 0; have zf1 := zf 1; have zf2 := zf 2; obtain ⟨y0, y1, y2, _⟩ := RN.out w4 (.slice A3 16 c3) (.slice A4 16 c4) (.int .i64 0) h4; clear zf hs hb h4)
    | (go_at_call 43; refine (rdkey_any 1 (by omega) (by omega) _ (secW x n) w2 (HK.out.below HB2.out HK.out.lt) HS2.out (by rw [HSL.out]; omega)).mono ?_; rintro e w3 ⟨v3, rfl, hs, hb⟩; obtain ⟨A3, c3, hv3⟩ : ∃ A c, v3 = .slice A 16 c := (by obtain ⟨a, c, e, _⟩ := hs; rw [keyW_len] at e; exact ⟨a, c, e⟩); subst hv3; have HK1 : Hid (BsS w3 (New w0 w3) (.slice A3 16 c3) (keyW (secW x n) 1)) := Lib.hid (BsS.keep hs fun g hg _ => ⟨rfl, Nat.le_trans HB2.out.size hg.1, hg.2⟩); have HS3 := Lib.hid (HS2.out.lift hb); have HB3 := Lib.hid (HB2.out.trans (hb.mono HB2.out.size)); clear hs hb)
    | (go_at_call 33; refine (HE.out w0).mono ?_; rintro e w1 ⟨v1, rfl, hs, hb1⟩; obtain ⟨A1, c1, hv1⟩ : ∃ A c, v1 = .slice A 4 c := (by obtain ⟨a, c, e, _⟩ := hs; exact ⟨a, c, e⟩); subst hv1; have HS1 : Hid (Bs w1 w1.heap.size (.slice A1 4 c1) (fourO x)) := Lib.hid (BsS.keep hs fun g hg _ => ⟨rfl, hg.2⟩); have HV1 := Lib.hid (HV.out.lift hb1); have HB1 := Lib.hid hb1; have HL1 : Hid (Below w1.heap.size w1 (w1.alloc (.cells #[] 5))) := Lib.hid ((Below.refl _ _).alloc (Nat.le_refl _) _); clear hs hb1)
    | (at_builtin; (with_reducible refine wpList_more rfl (.tmp 18) (.tmp 19) rfl w0.heap.size (.slice A9 4 c9) (fourO x) rfl HO9.out A 8 c n (· < w9.heap.size) rfl HV9.out (by rw [HN.out]; simp [fourO]) HB9.out.size ?_); intro v2 w2 hgr; have HS2 : Hid (Bs w2 w2.heap.size v2 (secW x n)) := Lib.hid ((hgr.1.out (by show (secW x n).length ≤ _; rw [HSL.out]; omega) w0 (Nat.le_refl _)).keep fun g hg _ => ⟨rfl, hg.2⟩); obtain ⟨A2, c2, hv2⟩ : ∃ A c, v2 = .slice A (fourO x ++ n).length c := hgr.1.form; rw [show (fourO x ++ n).length = 12 from HSL.out] at hv2; subst hv2; have HB2 := Lib.hid (HB9.out.trans hgr.2.1); clear hgr)
    | (at_builtin; (with_reducible refine wpList_more rfl (.tmp 16) (.tmp 17) rfl w0.heap.size (.slice (some ⟨w1.heap.size, 0, none⟩) 0 0) [] rfl (OwnB.lit0 w1 HB1.out.size) A1 4 c1 (fourO x) (· < (w1.alloc (.cells #[] 5)).heap.size) rfl (HS1.out.lift HL1.out) (by simp [fourO]) (Nat.le_trans HB1.out.size HL1.out.size) ?_); intro v9 w9 hgr; rw [List.nil_append] at hgr; obtain ⟨A9, c9, hv9⟩ := hgr.1.form; rw [fourO_len] at hv9; subst hv9; have HO9 := Lib.hid hgr.1; have h9 : Below w0.heap.size w0 w9 := (HB1.out.trans (HL1.out.mono HB1.out.size)).trans hgr.2.1; have HV9 : Hid (Bs w9 w9.heap.size (.slice A 8 c) n) := Lib.hid (BsS.keep HV1.out fun g hg _ => ⟨(hgr.2.2.1.block g (Nat.lt_of_lt_of_le hg HL1.out.size) (by intro e; simp [Value.ownBlock] at e; omega)).trans (Below.heap_alloc _ _ _ hg), Nat.lt_of_lt_of_le hg (Nat.le_trans HL1.out.size hgr.2.2.1.size)⟩); have HB9 := Lib.hid h9; clear hgr h9))
  refine bodyPost_ret (v := .agg #[.slice A3 16 c3, .slice A4 16 c4, .int .i64 0]) (by simp only [set3] at y0 y1 y2; simp [results, Tryd.results26, go_sem, y0, y1, y2]) rfl ?_
  have s0 := HZ0.out
  have hsz : (set3 w4 w.heap.size (.slice A3 16 c3) (.slice A4 16 c4) (.int .i64 0)).heap.size = w4.heap.size := (by simp [set3]); have hlt : ∀ g, g < w4.heap.size → g < (set3 w4 w.heap.size (.slice A3 16 c3) (.slice A4 16 c4) (.int .i64 0)).heap.size := fun g h => by rw [hsz]; exact h
  refine ⟨_, rfl, ⟨_, _, _, _, rfl, ?_, ?_⟩, OUT.out w4 _ _ _ HB4.out⟩
  · exact BsS.keep HK1.out fun g hg hl => ⟨set3_other (by have := hg.1; omega), by have := hg.1; omega, hlt g hg.2⟩
  · exact BsS.keep HK2.out fun g hg hl => ⟨set3_other (by have := hg.1; omega), by have := hg.1; omega, hlt g hg.2⟩
set_option maxRecDepth 100000 in
set_option maxHeartbeats 1000000 in
theorem token_any (vk : Value) (k : List UInt8) (hk : k.length = 16) (x : Int) (h : elemP x = true) (w : World) (hv : Bs w w.heap.size vk k) :
    Calls Tryd.prog 22 #[vk, .int .i64 x] w fun e w' => ∃ v', e = .returned (.tuple #[v', .int .i64 0]) ∧ OwnS w' w.heap.size v' ((codeO k (fourO x)).take 8) ∧ Below w.heap.size w w' := by
  obtain ⟨A, m, c, rfl⟩ := hv.form
  obtain rfl : m = 16 := by rw [Bs.lenEq hv]; exact hk
  have HE := Lib.hid (gencode_good x h)
  have HV := Lib.hid hv; have HL := Lib.hid hk
  clear h hv hk
  go_enter Tryd.func22, Tryd.ntmps22
  go_wp2_with (first
    | (go_at_call 39; refine (check_own _ _ k (fourO x) HL.out (by simp [fourO]) w1 (HV.out.lift HB1.out) HS1.out).mono ?_; rintro e w2 ⟨v2, rfl, ho, hb2⟩; have HO2 := Lib.hid (ho.wide HB1.out.size); have HB2 := Lib.hid (HB1.out.trans (hb2.mono HB1.out.size)); clear ho hb2)
    | (go_at_call 31; refine (HE.out w).mono ?_; rintro e w1 ⟨v1, rfl, ho, hb1⟩; obtain ⟨A1, c1, hv1⟩ := ho.form; rw [fourO_len] at hv1; have HS1 : Hid (Bs w1 w1.heap.size v1 (fourO x)) := Lib.hid (OwnB.bs ho (by simp [fourO])); subst hv1; have HB1 := Lib.hid hb1; clear ho hb1))
  go_ret2
  exact ⟨_, rfl, HO2.out, HB2.out⟩
set_option maxRecDepth 100000 in
set_option maxHeartbeats 1000000 in
theorem rtoken_any (u : Value) (B : Option Addr) (d : Nat) (k : List UInt8) (hk : k.length = 16) (x : Int) (h : elemP x = true) (w : World) (hv : Bs w w.heap.size (.slice B 16 d) k) :
    Calls Tryd.prog 27 #[.agg #[u, .slice B 16 d, .int .i64 0], .int .i64 x] w fun e w' => ∃ v', e = .returned v' ∧ Bs w' w'.heap.size v' ((codeO k (fourO x)).take 8) ∧ Below w.heap.size w w' := by
  obtain ⟨w0, hw0⟩ : ∃ w0, w0 = w.alloc (.cells #[u, .slice B 16 d, .int .i64 0] 25) := ⟨_, rfl⟩
  have hB0 : Below w.heap.size w w0 := by rw [hw0]; exact (Below.refl _ _).alloc (Nat.le_refl _) _
  have hh0 : w0.heap[w.heap.size]? = some (.cells #[u, .slice B 16 d, .int .i64 0] 25 (0, 0)) := by rw [hw0]; exact heap_alloc_new _ _
  have hlt0 := (Array.getElem?_eq_some_iff.1 hh0).1
  have FR := Lib.hid (fun (W : World) (hb : Below w0.heap.size w0 W) => sess3 ((hb.block w.heap.size hlt0).trans hh0))
  have HE := Lib.hid (rgencode_good x h)
  have HV := Lib.hid (hv.lift hB0); have HL := Lib.hid hk; have HW0 := Lib.hid hw0; have HB0 := Lib.hid hB0
  clear h hv hk hw0 hB0 hh0 hlt0
  go_enter Tryd.func27, Tryd.ntmps27
  go_upto_region 1 with fail
  rw [← HW0.out]
  go_wp2_with (first
    | (go_at_call 44; refine (rcheck_good _ _ k (fourO x) HL.out (by simp [fourO]) w1 (HV.out.lift HB1.out) HS1.out).mono ?_; rintro e w2 ⟨v2, rfl, ho, hb2⟩; have HO2 := Lib.hid ho; have HB2 := Lib.hid (HB0.out.trans ((HB1.out.trans (hb2.mono HB1.out.size)).mono HB0.out.size)); clear ho hb2 y0 y1 y2)
    | (go_at_call 33; refine (HE.out w0).mono ?_; rintro e w1 ⟨v1, rfl, hs, hb1⟩; obtain ⟨A1, c1, hv1⟩ : ∃ A c, v1 = .slice A 4 c := (by obtain ⟨a, c, e, _⟩ := hs; exact ⟨a, c, e⟩); subst hv1; have HS1 : Hid (Bs w1 w1.heap.size (.slice A1 4 c1) (fourO x)) := Lib.hid (BsS.keep hs fun g hg _ => ⟨rfl, hg.2⟩); obtain ⟨y0, y1, y2, _⟩ := FR.out w1 hb1; have HB1 := Lib.hid hb1; clear hs hb1))
  go_ret
  exact ⟨_, rfl, HO2.out, HB2.out⟩
end Go.Proofs.YtnogcnmoeekcpaaDoor
