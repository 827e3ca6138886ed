/- Chip authentication: Reply and Check, both sides. -/
import Derived.Test.YtnogcnmoeekcpaaDoorChi1
import Derived.StillTailTactics
namespace Go.Proofs.YtnogcnmoeekcpaaDoor
open Go.RowKit Go.Deep

theorem OwnS.keep {w w' : World} {base : Nat} {v : Value} {l : List UInt8} (h : OwnS w base v l) (hk : ∀ g, base ≤ g → w'.heap[g]? = w.heap[g]?) (hs : w.heap.size ≤ w'.heap.size) : OwnS w' base v l := by
  obtain ⟨g, c, e, h1, h2, h3, h4, h5, h6⟩ := h
  exact ⟨g, c, e, h1, Nat.lt_of_lt_of_le h2 hs, h3, h4, fun j hj => (World.cell?_of_block (w := w) (hk g h1)).trans (h5 j hj), fun o => by
    have := h6 o
    simp only [World.frozen?] at this ⊢
    rw [hk g h1]
    exact this⟩
theorem BsS.notrow {w : World} {p : Nat} {a b c : Value} {t : TypeId} {S : Nat → Prop} {v : Value} {l : List UInt8} (h : w.heap[p]? = some (.cells #[a, b, c] t (0, 0))) (hv : BsS w S v l) (hl : 3 < l.length) : BsS w (fun b => S b ∧ b ≠ p) v l := by
  obtain ⟨A, k, e, h1, h2, h3, h4⟩ := hv
  refine ⟨A, k, e, h1, h2, h3, fun hp => ?_⟩
  obtain ⟨g, off, ha, hs, hc⟩ := h4 hp
  refine ⟨g, off, ha, ⟨hs, ?_⟩, hc⟩
  rintro rfl
  have h5 := hc 3 hl
  rw [cell_of_row _ _ _ _ _ _ h] at h5
  simp at h5
/-- What Reply returns: an error, the token, both keys, the number. -/
def replyW (k x : Int) (n : List UInt8) : Int × List UInt8 × List UInt8 × List UInt8 × Int :=
  if ¬ okS k = true then (3, [], [], [], 0)
  else if ¬ elemP x = true then (10, [], [], [], 0)
  else if ¬ n.length = 8 then (2, [], [], [], 0)
  else (0, (codeO (keyW (secW (gpw 64 1 x.toNat k.toNat : Nat) n) 2) (fourO x)).take 8, keyW (secW (gpw 64 1 x.toNat k.toNat : Nat) n) 1, keyW (secW (gpw 64 1 x.toNat k.toNat : Nat) n) 2, 0)
def RepOut (own : Bool) (r : Int × List UInt8 × List UInt8 × List UInt8 × Int) (w : World) (e : Ending) (w' : World) : Prop :=
  ∃ v s, e = .returned (.tuple #[v, s, .int .i64 r.1]) ∧ Bs w' w'.heap.size v r.2.1 ∧ (own = true → r.1 = 0 → OwnS w' w.heap.size v r.2.1) ∧ SessL w' (New w w') s r.2.2.1 r.2.2.2.1 r.2.2.2.2 ∧ Below w.heap.size w w'
set_option maxRecDepth 100000 in
set_option maxHeartbeats 4000000 in
theorem creply_any (k X : Int) (v : Value) (n : List UInt8) (w : World) (hK : KD w) (hv : Bs w w.heap.size v n) :
    Calls Tryd.prog 8 #[.int .i64 k, .int .i64 X, v] w (RepOut true (replyW k X n) w) := by
  obtain ⟨w0, hw0⟩ : ∃ w0, w0 = w.alloc (.cells #[.slice none 0 0, .slice none 0 0, .int .i64 0] 25) := ⟨_, rfl⟩
  have hB0 : Below w.heap.size w w0 := by rw [hw0]; exact (Below.refl _ _).alloc (Nat.le_refl _) _
  have hz0 : w0.heap.size = w.heap.size + 1 := by rw [hw0]; simp
  have hh0 : w0.heap[w.heap.size]? = some (.cells #[.slice none 0 0, .slice none 0 0, .int .i64 0] 25 (0, 0)) := by rw [hw0]; exact heap_alloc_new _ _
  have hlt0 := (Array.getElem?_eq_some_iff.1 hh0).1
  have FR := Lib.hid (fun (W : World) (hb : Below w0.heap.size w0 W) => sess3 ((hb.block w.heap.size hlt0).trans hh0))
  have RW := Lib.hid (fun (W : World) (hb : Below w0.heap.size w0 W) => (hb.block w.heap.size hlt0).trans hh0)
  have RN := Lib.hid (fun (W : World) (a b c : Value) (hb : Below w0.heap.size w0 W) => sess3 (set3_row a b c ((hb.block w.heap.size hlt0).trans hh0)))
  have OUT := Lib.hid (fun (W : World) (a b c : Value) (hb : Below w0.heap.size w0 W) => (set3_below (a := a) (b := b) (c := c) (hB0.trans (hb.mono hB0.size)) (Nat.le_refl _) : Below w.heap.size w (set3 W w.heap.size a b c)))
  obtain ⟨A, m, c, rfl⟩ := hv.form
  have hlm := Bs.lenEq hv
  have HV := Lib.hid (hv.lift hB0)
  have HK := Lib.hid (hK.below hB0 hK.lt)
  have HW0 := Lib.hid hw0; have HB0 := Lib.hid hB0; have HZ0 := Lib.hid hz0
  clear hK hv hw0 hB0 hz0 hh0 hlt0
  have HSK := Lib.hid (fun w => csecret_any k w)
  have HM := Lib.hid (fun w => elem_any X w)
  by_cases hk : okS k = true
  · rw [hk] at HSK
    by_cases hx : elemP X = true
    · rw [hx] at HM
      by_cases hn : n.length = 8
      · have HE : Hid (replyW k X n = (0, (codeO (keyW (secW (gpw 64 1 X.toNat k.toNat : Nat) n) 2) (fourO X)).take 8, keyW (secW (gpw 64 1 X.toNat k.toNat : Nat) n) 1, keyW (secW (gpw 64 1 X.toNat k.toNat : Nat) n) 2, 0)) := Lib.hid (by unfold replyW; rw [if_neg (fun h => h hk), if_neg (fun h => h hx), if_neg (fun h => h hn)])
        obtain rfl : m = 8 := by omega
        have HN := Lib.hid hn; have HX := Lib.hid hx
        have h1 := okS_in hk; have h2 := elem_in hx
        obtain ⟨kk, rfl⟩ : ∃ q : Nat, k = q := ⟨k.toNat, by omega⟩
        have HSH := gshare_good kk X.toNat (by omega) (by omega) (by rw [Int.toNat_of_nonneg (by omega)]; exact hx) w0
        have HSE := share_elem X.toNat kk (by rw [Int.toNat_of_nonneg (by omega)]; exact hx) (by omega) (by omega)
        rw [Int.toNat_of_nonneg (by omega)] at HSH
        rw [Int.toNat_natCast] at HE
        obtain ⟨Z, hZ⟩ : ∃ Z, gpw 64 1 X.toNat kk = Z := ⟨_, rfl⟩
        rw [hZ] at HSH HSE HE
        have HSH := Lib.hid HSH; have HSE := Lib.hid HSE
        clear hk hx hn h1 h2 hZ hlm
        go_enter Tryd.func8, Tryd.ntmps8
        go_upto_region 1 with fail
        rw [← HW0.out]
        go_upto_region 16 with (first
          | (go_at_call 22; refine (token_any _ (keyW (secW Z n) 2) (keyW_len _ _) X HX.out _ (BsS.keep H2.out (w' := fillS w1 (.slice A1 16 c1) (.slice B1 16 d1) (.int .i64 0)) (S' := (· < (fillS w1 (.slice A1 16 c1) (.slice B1 16 d1) (.int .i64 0)).heap.size)) fun g hg hl => ⟨(below_fillS w1 (.slice A1 16 c1) (.slice B1 16 d1) (.int .i64 0)).block g hl, Nat.lt_of_lt_of_le hl (below_fillS w1 (.slice A1 16 c1) (.slice B1 16 d1) (.int .i64 0)).size⟩)).mono ?_; rintro e w2 ⟨v2, rfl, ho, hb⟩; have hf : Below w1.heap.size w1 w2 := (below_fillS w1 (.slice A1 16 c1) (.slice B1 16 d1) (.int .i64 0)).trans (hb.mono (below_fillS w1 (.slice A1 16 c1) (.slice B1 16 d1) (.int .i64 0)).size); have HO := Lib.hid ho; have HF := Lib.hid hf; have h2 : Below w0.heap.size w0 w2 := HB1.out.trans (hf.mono HB1.out.size); have HB2 := Lib.hid h2; clear q0 q1 q2 n0 n1 n2 nf0 nf1 nf2; obtain ⟨q0, q1, q2, _⟩ := sess3 ((hb.block w1.heap.size (fill_lt w1 _ _ _)).trans (fill_row w1 (.slice A1 16 c1) (.slice B1 16 d1) (.int .i64 0))); obtain ⟨z0, z1, z2, zf⟩ := FR.out w2 h2; have zf0 := zf 0; have zf1 := zf 1; have zf2 := zf 2; obtain ⟨y0, y1, y2, _⟩ := RN.out w2 (.slice A1 16 c1) (.slice B1 16 d1) (.int .i64 0) h2; clear zf; clear ho hb hf h2)
          | (go_at_call 21; refine (csession_any (Z : Int) HSE.out _ n HN.out w0 HK.out HV.out).mono ?_; rintro e w1 ⟨s1, rfl, ⟨A1, c1, B1, d1, rfl, h1, h2⟩, hb⟩; have H1 := Lib.hid h1; have H2 := Lib.hid h2; have HB1 := Lib.hid hb; obtain ⟨n0, n1, n2, nf⟩ := sess3 (fresh_row w1); have nf0 := nf 0; have nf1 := nf 1; have nf2 := nf 2; clear nf; obtain ⟨q0, q1, q2, _⟩ := sess3 (fill_row w1 (.slice A1 16 c1) (.slice B1 16 d1) (.int .i64 0)); clear h1 h2 hb)
          | (go_at_call 20; refine HSH.out.mono ?_; rintro e w' ⟨rfl, hw'⟩; rw [hw']; clear hw' w')
          | (go_at_call 18; refine (HSK.out _).mono ?_; rintro e w' ⟨rfl, hw'⟩; rw [hw']; clear hw' w')
          | (go_at_call 19; refine (HM.out _).mono ?_; rintro e w' ⟨rfl, hw'⟩; rw [hw']; clear hw' w'))
        obtain ⟨g2, k2, hv2⟩ : ∃ g c, v2 = .slice (some ⟨g, 0, none⟩) 8 c := by
          obtain ⟨g, c, e, _⟩ := HO.out
          rw [List.length_take, codeO_len (keyW_len _ _)] at e
          exact ⟨g, c, e⟩
        subst hv2
        clear y0 y1 y2
        go_still_tail 3, (by kernel_rfl)
        change wpList _ _ _ _ _ w2.drew
        have hd2 : Below w2.heap.size w2 w2.drew := (Below.refl _ _).drew
        obtain ⟨w3, hw3⟩ : ∃ w3, w3 = w2.drew := ⟨_, rfl⟩
        rw [← hw3] at hd2 ⊢
        have h3 : Below w0.heap.size w0 w3 := HB2.out.trans (hd2.mono HB2.out.size)
        have HB3 := Lib.hid h3; have HD := Lib.hid hd2
        clear z0 z1 z2 zf0 zf1 zf2 q0 q1 q2 hw3
        obtain ⟨z0, z1, z2, zf⟩ := FR.out w3 h3; have zf0 := zf 0; have zf1 := zf 1; have zf2 := zf 2; obtain ⟨y0, y1, y2, _⟩ := RN.out w3 (.slice A1 16 c1) (.slice B1 16 d1) (.int .i64 0) h3; clear zf
        clear h3 hd2
        go_wp2_with fail
        refine bodyPost_ret (v := .tuple #[.slice (some ⟨g2, 0, none⟩) 8 k2, .agg #[.slice A1 16 c1, .slice B1 16 d1, .int .i64 0], .int .i64 0]) (by simp only [set3] at y0 y1 y2; simp [results, Tryd.results8, go_sem, y0, y1, y2]) rfl ?_
        rw [HE.out]
        have s0 := HZ0.out; have s1 := HB1.out.size; have s2 := HF.out.size; have s3 := HD.out.size
        have hsz : (set3 w3 w.heap.size (.slice A1 16 c1) (.slice B1 16 d1) (.int .i64 0)).heap.size = w3.heap.size := (by simp [set3]); have hlt : ∀ g, g < w3.heap.size → g < (set3 w3 w.heap.size (.slice A1 16 c1) (.slice B1 16 d1) (.int .i64 0)).heap.size := fun g h => by rw [hsz]; exact h
        have hfz : Below w0.heap.size w3 (set3 w3 w.heap.size (.slice A1 16 c1) (.slice B1 16 d1) (.int .i64 0)) → True := fun _ => trivial
        have hkeep : ∀ g, g ≠ w.heap.size → (set3 w3 w.heap.size (.slice A1 16 c1) (.slice B1 16 d1) (.int .i64 0)).heap[g]? = w3.heap[g]? := fun g hg => set3_other hg
        have ho : OwnS (set3 w3 w.heap.size (.slice A1 16 c1) (.slice B1 16 d1) (.int .i64 0)) w.heap.size (.slice (some ⟨g2, 0, none⟩) 8 k2) ((codeO (keyW (secW Z n) 2) (fourO X)).take 8) := by
          have sf := (below_fillS w1 (.slice A1 16 c1) (.slice B1 16 d1) (.int .i64 0)).size
          refine (OwnS.keep (HO.out.on HD.out) (fun g hg => hkeep g ?_) (by rw [hsz]; exact Nat.le_refl _)).wide (by omega)
          have := (below_fillS w1 (.slice A1 16 c1) (.slice B1 16 d1) (.int .i64 0)).size
          omega
        refine ⟨_, _, rfl, (ho.bs (w0 := w) (by rw [List.length_take]; omega)).keep (fun _ hg _ => ⟨rfl, hg.2⟩), fun _ _ => ho, ⟨_, _, rfl, ?_, ?_⟩, OUT.out w3 _ _ _ HB3.out⟩
        · exact BsS.keep H1.out fun g hg hl => ⟨(hkeep g (by have := hg.1; omega)).trans ((HD.out.block g (by have := hg.2; omega)).trans (HF.out.block g hg.2)), by have := hg.1; omega, hlt g (by have := hg.2; omega)⟩
        · exact BsS.keep H2.out fun g hg hl => ⟨(hkeep g (by have := hg.1; omega)).trans ((HD.out.block g (by have := hg.2; omega)).trans (HF.out.block g hg.2)), by have := hg.1; omega, hlt g (by have := hg.2; omega)⟩
      · have t2 : ((m : Int) != 8) = true := by simp; omega
        have hx' := Lib.hid hx; have hk' := Lib.hid hk; have hn' := Lib.hid hn
        clear hx hk hn hlm
        obtain ⟨z0, z1, z2, zf⟩ := FR.out w0 (Below.refl _ _); have zf0 := zf 0; have zf1 := zf 1; have zf2 := zf 2; obtain ⟨y0, y1, y2, _⟩ := RN.out w0 (.slice none 0 0) (.slice none 0 0) (.int .i64 0) (Below.refl _ _); clear zf
        go_enter Tryd.func8, Tryd.ntmps8
        go_upto_region 1 with fail
        rw [← HW0.out]
        go_wp2_with (first
          | (go_at_call 18; refine (HSK.out _).mono ?_; rintro e w' ⟨rfl, hw'⟩; rw [hw']; clear hw' w')
          | (go_at_call 19; refine (HM.out _).mono ?_; rintro e w' ⟨rfl, hw'⟩; rw [hw']; clear hw' w'))
        refine bodyPost_ret (v := .tuple #[.slice none 0 0, .agg #[.slice none 0 0, .slice none 0 0, .int .i64 0], .int .i64 2]) (by simp only [set3] at y0 y1 y2; simp [results, Tryd.results8, go_sem, y0, y1, y2]) rfl ?_
        rw [show replyW k X n = (2, [], [], [], 0) from (by unfold replyW; rw [if_neg (fun h => h hk'.out), if_neg (fun h => h hx'.out), if_pos hn'.out])]
        exact ⟨_, _, rfl, Bs.nil _ _, (fun _ h => absurd h (by decide)), ⟨_, _, rfl, bs_nil _ _, bs_nil _ _⟩, OUT.out w0 _ _ _ (Below.refl _ _)⟩
    · rw [show elemP X = false by simpa using hx] at HM
      have hx' := Lib.hid hx; have hk' := Lib.hid hk
      clear hx hk hlm
      obtain ⟨z0, z1, z2, zf⟩ := FR.out w0 (Below.refl _ _); have zf0 := zf 0; have zf1 := zf 1; have zf2 := zf 2; obtain ⟨y0, y1, y2, _⟩ := RN.out w0 (.slice none 0 0) (.slice none 0 0) (.int .i64 0) (Below.refl _ _); clear zf
      go_enter Tryd.func8, Tryd.ntmps8
      go_upto_region 1 with fail
      rw [← HW0.out]
      go_wp2_with (first
        | (go_at_call 18; refine (HSK.out _).mono ?_; rintro e w' ⟨rfl, hw'⟩; rw [hw']; clear hw' w')
        | (go_at_call 19; refine (HM.out _).mono ?_; rintro e w' ⟨rfl, hw'⟩; rw [hw']; clear hw' w'))
      refine bodyPost_ret (v := .tuple #[.slice none 0 0, .agg #[.slice none 0 0, .slice none 0 0, .int .i64 0], .int .i64 10]) (by simp only [set3] at y0 y1 y2; simp [results, Tryd.results8, go_sem, y0, y1, y2]) rfl ?_
      rw [show replyW k X n = (10, [], [], [], 0) from (by unfold replyW; rw [if_neg (fun h => h hk'.out), if_pos hx'.out])]
      exact ⟨_, _, rfl, Bs.nil _ _, (fun _ h => absurd h (by decide)), ⟨_, _, rfl, bs_nil _ _, bs_nil _ _⟩, OUT.out w0 _ _ _ (Below.refl _ _)⟩
  · rw [show okS k = false by simpa using hk] at HSK
    have hk' := Lib.hid hk
    clear hk hlm
    obtain ⟨z0, z1, z2, zf⟩ := FR.out w0 (Below.refl _ _); have zf0 := zf 0; have zf1 := zf 1; have zf2 := zf 2; obtain ⟨y0, y1, y2, _⟩ := RN.out w0 (.slice none 0 0) (.slice none 0 0) (.int .i64 0) (Below.refl _ _); clear zf
    go_enter Tryd.func8, Tryd.ntmps8
    go_upto_region 1 with fail
    rw [← HW0.out]
    go_wp2_with (go_at_call 18; refine (HSK.out _).mono ?_; rintro e w' ⟨rfl, hw'⟩; rw [hw']; clear hw' w')
    refine bodyPost_ret (v := .tuple #[.slice none 0 0, .agg #[.slice none 0 0, .slice none 0 0, .int .i64 0], .int .i64 3]) (by simp only [set3] at y0 y1 y2; simp [results, Tryd.results8, go_sem, y0, y1, y2]) rfl ?_
    rw [show replyW k X n = (3, [], [], [], 0) from (by unfold replyW; rw [if_pos hk'.out])]
    exact ⟨_, _, rfl, Bs.nil _ _, (fun _ h => absurd h (by decide)), ⟨_, _, rfl, bs_nil _ _, bs_nil _ _⟩, OUT.out w0 _ _ _ (Below.refl _ _)⟩
set_option maxRecDepth 100000 in
set_option maxHeartbeats 4000000 in
theorem rcreply_any (k X : Int) (v : Value) (n : List UInt8) (w : World) (hK : KR w) (hv : Bs w w.heap.size v n) :
    Calls Tryd.prog 9 #[.int .i64 k, .int .i64 X, v] w (RepOut false (replyW k X n) w) := by
  obtain ⟨w0, hw0⟩ : ∃ w0, w0 = w.alloc (.cells #[.slice none 0 0, .slice none 0 0, .int .i64 0] 25) := ⟨_, rfl⟩
  have hB0 : Below w.heap.size w w0 := by rw [hw0]; exact (Below.refl _ _).alloc (Nat.le_refl _) _
  have hz0 : w0.heap.size = w.heap.size + 1 := by rw [hw0]; simp
  have hh0 : w0.heap[w.heap.size]? = some (.cells #[.slice none 0 0, .slice none 0 0, .int .i64 0] 25 (0, 0)) := by rw [hw0]; exact heap_alloc_new _ _
  have hlt0 := (Array.getElem?_eq_some_iff.1 hh0).1
  have FR := Lib.hid (fun (W : World) (hb : Below w0.heap.size w0 W) => sess3 ((hb.block w.heap.size hlt0).trans hh0))
  have RW := Lib.hid (fun (W : World) (hb : Below w0.heap.size w0 W) => (hb.block w.heap.size hlt0).trans hh0)
  have RN := Lib.hid (fun (W : World) (a b c : Value) (hb : Below w0.heap.size w0 W) => sess3 (set3_row a b c ((hb.block w.heap.size hlt0).trans hh0)))
  have OUT := Lib.hid (fun (W : World) (a b c : Value) (hb : Below w0.heap.size w0 W) => (set3_below (a := a) (b := b) (c := c) (hB0.trans (hb.mono hB0.size)) (Nat.le_refl _) : Below w.heap.size w (set3 W w.heap.size a b c)))
  obtain ⟨A, m, c, rfl⟩ := hv.form
  have hlm := Bs.lenEq hv
  have HV := Lib.hid (hv.lift hB0)
  have HK := Lib.hid (hK.below hB0 hK.lt)
  have HW0 := Lib.hid hw0; have HB0 := Lib.hid hB0; have HZ0 := Lib.hid hz0
  clear hK hv hw0 hB0 hz0 hh0 hlt0
  have HSK := Lib.hid (fun w => rcsecret_any k w)
  have HM := Lib.hid (fun w => relem_any X w)
  by_cases hk : okS k = true
  · rw [hk] at HSK
    by_cases hx : elemP X = true
    · rw [hx] at HM
      by_cases hn : n.length = 8
      · have HE : Hid (replyW k X n = (0, (codeO (keyW (secW (gpw 64 1 X.toNat k.toNat : Nat) n) 2) (fourO X)).take 8, keyW (secW (gpw 64 1 X.toNat k.toNat : Nat) n) 1, keyW (secW (gpw 64 1 X.toNat k.toNat : Nat) n) 2, 0)) := Lib.hid (by unfold replyW; rw [if_neg (fun h => h hk), if_neg (fun h => h hx), if_neg (fun h => h hn)])
        obtain rfl : m = 8 := by omega
        have HN := Lib.hid hn; have HX := Lib.hid hx
        have h1 := okS_in hk; have h2 := elem_in hx
        obtain ⟨kk, rfl⟩ : ∃ q : Nat, k = q := ⟨k.toNat, by omega⟩
        have HSH := rgshare_good kk X.toNat (by omega) (by omega) (by rw [Int.toNat_of_nonneg (by omega)]; exact hx) w0
        have HSE := share_elem X.toNat kk (by rw [Int.toNat_of_nonneg (by omega)]; exact hx) (by omega) (by omega)
        rw [Int.toNat_of_nonneg (by omega)] at HSH
        rw [Int.toNat_natCast] at HE
        obtain ⟨Z, hZ⟩ : ∃ Z, gpw 64 1 X.toNat kk = Z := ⟨_, rfl⟩
        rw [hZ] at HSH HSE HE
        have HSH := Lib.hid HSH; have HSE := Lib.hid HSE
        clear hk hx hn h1 h2 hZ hlm
        go_enter Tryd.func9, Tryd.ntmps9
        go_upto_region 1 with fail
        rw [← HW0.out]
        go_upto_region 9 with (first
          | (go_at_call 26; refine (rcsession_any (Z : Int) HSE.out _ n HN.out w0 HK.out HV.out).mono ?_; rintro e ws ⟨s1, rfl, ⟨A1, c1, B1, d1, rfl, h1, h2⟩, hb⟩; have H1 := Lib.hid h1; have H2 := Lib.hid h2; have HBs := Lib.hid hb; obtain ⟨n0, n1, n2, nf⟩ := sess3 (fresh_row ws); have nf0 := nf 0; have nf1 := nf 1; have nf2 := nf 2; clear nf; obtain ⟨q0, q1, q2, _⟩ := sess3 (fill_row ws (.slice A1 16 c1) (.slice B1 16 d1) (.int .i64 0)); clear h1 h2 hb)
          | (go_at_call 25; refine HSH.out.mono ?_; rintro e w' ⟨rfl, hw'⟩; rw [hw']; clear hw' w')
          | (go_at_call 23; refine (HSK.out _).mono ?_; rintro e w' ⟨rfl, hw'⟩; rw [hw']; clear hw' w')
          | (go_at_call 24; refine (HM.out _).mono ?_; rintro e w' ⟨rfl, hw'⟩; rw [hw']; clear hw' w'))
        have hbs : Below ws.heap.size ws (ws.alloc (.cells #[.slice A1 16 c1, .slice B1 16 d1, .int .i64 0] 25)) := below_fillS ws (.slice A1 16 c1) (.slice B1 16 d1) (.int .i64 0)
        have hrow : (ws.alloc (.cells #[.slice A1 16 c1, .slice B1 16 d1, .int .i64 0] 25)).heap[ws.heap.size]? = some (.cells #[.slice A1 16 c1, .slice B1 16 d1, .int .i64 0] 25 (0, 0)) := fill_row ws (.slice A1 16 c1) (.slice B1 16 d1) (.int .i64 0)
        obtain ⟨w2, hw2⟩ : ∃ w2, w2 = ws.alloc (.cells #[.slice A1 16 c1, .slice B1 16 d1, .int .i64 0] 25) := ⟨_, rfl⟩
        rw [← hw2] at hbs hrow ⊢
        have hlt := (Array.getElem?_eq_some_iff.1 hrow).1
        have CS : Hid (∀ W, Below w2.heap.size w2 W → W.cell? ⟨ws.heap.size, 0, none⟩ = some (.slice A1 16 c1) ∧ W.cell? ⟨ws.heap.size, 1, none⟩ = some (.slice B1 16 d1) ∧ W.cell? ⟨ws.heap.size, 2, none⟩ = some (.int .i64 0)) := Lib.hid fun W h => (by obtain ⟨a, b, c, _⟩ := sess3 ((h.block ws.heap.size hlt).trans hrow); exact ⟨a, b, c⟩)
        have HB3 : Hid (Bs w2 w2.heap.size (.slice B1 16 d1) (keyW (secW Z n) 2)) := Lib.hid (BsS.keep H2.out fun g hg hl => ⟨hbs.block g hl, Nat.lt_of_lt_of_le hl hbs.size⟩)
        have HB2 : Hid (Below w0.heap.size w0 w2) := Lib.hid (HBs.out.trans (hbs.mono HBs.out.size))
        have HBS := Lib.hid hbs
        clear hbs hrow hlt hw2 q0 q1 q2 n0 n1 n2 nf0 nf1 nf2
        refine wp_region_rg 5 [some 36, some 37, some 38, some 39, some 6] [[], [], [0, 1], [], [0, 1, 2]]
          (fun _ _ w1 => Below w2.heap.size w2 w1) (fun w1 w2 => Below w1.heap.size w1 w2)
          [fun v _ => v 0 = .agg #[.slice A1 16 c1, .slice B1 16 d1, .int .i64 0],
           fun v _ => v 1 = .int .i64 X,
           fun v w1 => ∃ y, v 2 = y ∧ Bs w1 w1.heap.size y ((codeO (keyW (secW Z n) 2) (fourO X)).take 8),
           fun v _ => v 3 = .agg #[.slice A1 16 c1, .slice B1 16 d1, .int .i64 0],
           fun v w1 => ∃ y, v 4 = y ∧ Bs w1 w1.heap.size y ((codeO (keyW (secW Z n) 2) (fourO X)).take 8)]
          (by kernel_rfl) (by kernel_rfl) (fun _ => (Below.refl _ _).drew) ?st ?steps ?tail
        case st =>
          exact (.cons (fun _ _ _ _ _ _ h => h) (.cons (fun _ _ _ _ _ _ h => h) (.cons (fun _ _ _ _ _ hr ⟨y, e, h⟩ => ⟨y, e, h.lift hr⟩) (.cons (fun _ _ _ _ _ _ h => h) (.cons (fun _ _ _ _ _ hr ⟨y, e, h⟩ => ⟨y, e, h.lift hr⟩) .nil)))))
        case steps =>
          simp only [List.take_succ_cons, List.take_zero]
          refine (.cons ?_ (.cons ?_ (.cons ?_ (.cons ?_ (.cons ?_ .nil)))))
          all_goals (intro L v w1 hJ hL hA hF K hK; simp only [fillRG, Act.put, Nat.zero_add, Nat.reduceAdd, List.setIfInBounds_toArray, List.set_cons_zero, List.set_cons_succ] at hK ⊢)
          · obtain ⟨c0, c1, c2⟩ := CS.out _ hJ
            go_simp
            refine hK _ _ hJ (Below.refl _ _) ?_
            first | exact rfl | exact val_mod _
          · go_simp
            refine hK _ _ hJ (Below.refl _ _) ?_
            first | exact rfl | exact val_mod _
          · have e0 : v 0 = .agg #[.slice A1 16 c1, .slice B1 16 d1, .int .i64 0] := hF 0 (hA 0 (by simp))
            have e1 : v 1 = .int .i64 X := hF 1 (hA 1 (by simp))
            simp only [e0, e1] at hK
            go_simp
            refine (rtoken_any _ _ _ (keyW (secW Z n) 2) (keyW_len _ _) X HX.out w1 (HB3.out.lift hJ)).mono ?_
            rintro e w5 ⟨v5, rfl, ho, hb⟩
            exact hK _ _ (hJ.trans (hb.mono hJ.size)) hb ⟨v5, rfl, ho⟩
          · obtain ⟨c0, c1, c2⟩ := CS.out _ hJ
            go_simp
            refine hK _ _ hJ (Below.refl _ _) ?_
            first | exact rfl | exact val_mod _
          · obtain ⟨y, ei, hh⟩ : ∃ y, v 2 = y ∧ Bs w1 w1.heap.size y ((codeO (keyW (secW Z n) 2) (fourO X)).take 8) := hF 2 (hA 2 (by simp))
            simp only [ei] at hK
            go_simp
            exact hK _ _ hJ (Below.refl _ _) ⟨y, rfl, hh⟩
        case tail =>
          intro v w1 hJ hF
          have e0 : v 0 = .agg #[.slice A1 16 c1, .slice B1 16 d1, .int .i64 0] := hF 0 (by simp)
          have e1 : v 1 = .int .i64 X := hF 1 (by simp)
          have e3 : v 3 = .agg #[.slice A1 16 c1, .slice B1 16 d1, .int .i64 0] := hF 3 (by simp)
          obtain ⟨y9, e4, hy⟩ : ∃ y, v 4 = y ∧ Bs w1 w1.heap.size y ((codeO (keyW (secW Z n) 2) (fourO X)).take 8) := hF 4 (by simp)
          simp only [List.drop_succ_cons, List.drop_zero, fillRG, Act.put, Nat.zero_add, Nat.reduceAdd, List.setIfInBounds_toArray, List.set_cons_zero, List.set_cons_succ]
          simp only [e3, e4]
          clear e0 e1 e3 e4
          have h1 : Below w0.heap.size w0 w1 := HB2.out.trans (hJ.mono HB2.out.size)
          have HJ := Lib.hid hJ; have HY := Lib.hid hy; have H01 := Lib.hid h1
          obtain ⟨z0, z1, z2, zf⟩ := FR.out w1 h1; have zf0 := zf 0; have zf1 := zf 1; have zf2 := zf 2; obtain ⟨y0, y1, y2, _⟩ := RN.out w1 (.slice A1 16 c1) (.slice B1 16 d1) (.int .i64 0) h1; clear zf
          clear h1 hJ hy hF
          go_wp2_with fail
          refine bodyPost_ret (v := .tuple #[y9, .agg #[.slice A1 16 c1, .slice B1 16 d1, .int .i64 0], .int .i64 0]) (by simp only [set3] at y0 y1 y2; simp [results, Tryd.results9, go_sem, y0, y1, y2]) rfl ?_
          rw [HE.out]
          have s0 := HZ0.out; have s1 := HBS.out.size; have s2 := HJ.out.size; have sB := HB2.out.size
          have hsz : (set3 w1 w.heap.size (.slice A1 16 c1) (.slice B1 16 d1) (.int .i64 0)).heap.size = w1.heap.size := (by simp [set3]); have hlt : ∀ g, g < w1.heap.size → g < (set3 w1 w.heap.size (.slice A1 16 c1) (.slice B1 16 d1) (.int .i64 0)).heap.size := fun g h => by rw [hsz]; exact h
          have hkeep : ∀ g, g ≠ w.heap.size → (set3 w1 w.heap.size (.slice A1 16 c1) (.slice B1 16 d1) (.int .i64 0)).heap[g]? = w1.heap[g]? := fun g hg => set3_other hg
          refine ⟨_, _, rfl, ?_, fun h => absurd h (by decide), ⟨_, _, rfl, ?_, ?_⟩, OUT.out w1 _ _ _ H01.out⟩
          · exact BsS.keep (BsS.notrow (RW.out w1 H01.out) HY.out (by rw [List.length_take, codeO_len (keyW_len _ _)]; decide)) fun g hg hl => ⟨hkeep g hg.2, hlt g hg.1⟩
          · exact BsS.keep H1.out fun g hg hl => ⟨(hkeep g (by have := hg.1; omega)).trans ((HJ.out.block g (by have := hg.2; omega)).trans (HBS.out.block g hg.2)), by have := hg.1; omega, hlt g (by have := hg.2; omega)⟩
          · exact BsS.keep H2.out fun g hg hl => ⟨(hkeep g (by have := hg.1; omega)).trans ((HJ.out.block g (by have := hg.2; omega)).trans (HBS.out.block g hg.2)), by have := hg.1; omega, hlt g (by have := hg.2; omega)⟩
      · have t2 : ((m : Int) != 8) = true := by simp; omega
        have hx' := Lib.hid hx; have hk' := Lib.hid hk; have hn' := Lib.hid hn
        clear hx hk hn hlm
        obtain ⟨z0, z1, z2, zf⟩ := FR.out w0 (Below.refl _ _); have zf0 := zf 0; have zf1 := zf 1; have zf2 := zf 2; obtain ⟨y0, y1, y2, _⟩ := RN.out w0 (.slice none 0 0) (.slice none 0 0) (.int .i64 0) (Below.refl _ _); clear zf
        go_enter Tryd.func9, Tryd.ntmps9
        go_upto_region 1 with fail
        rw [← HW0.out]
        go_wp2_with (first
          | (go_at_call 23; refine (HSK.out _).mono ?_; rintro e w' ⟨rfl, hw'⟩; rw [hw']; clear hw' w')
          | (go_at_call 24; refine (HM.out _).mono ?_; rintro e w' ⟨rfl, hw'⟩; rw [hw']; clear hw' w'))
        refine bodyPost_ret (v := .tuple #[.slice none 0 0, .agg #[.slice none 0 0, .slice none 0 0, .int .i64 0], .int .i64 2]) (by simp only [set3] at y0 y1 y2; simp [results, Tryd.results9, go_sem, y0, y1, y2]) rfl ?_
        rw [show replyW k X n = (2, [], [], [], 0) from (by unfold replyW; rw [if_neg (fun h => h hk'.out), if_neg (fun h => h hx'.out), if_pos hn'.out])]
        exact ⟨_, _, rfl, Bs.nil _ _, (fun h => absurd h (by decide)), ⟨_, _, rfl, bs_nil _ _, bs_nil _ _⟩, OUT.out w0 _ _ _ (Below.refl _ _)⟩
    · rw [show elemP X = false by simpa using hx] at HM
      have hx' := Lib.hid hx; have hk' := Lib.hid hk
      clear hx hk hlm
      obtain ⟨z0, z1, z2, zf⟩ := FR.out w0 (Below.refl _ _); have zf0 := zf 0; have zf1 := zf 1; have zf2 := zf 2; obtain ⟨y0, y1, y2, _⟩ := RN.out w0 (.slice none 0 0) (.slice none 0 0) (.int .i64 0) (Below.refl _ _); clear zf
      go_enter Tryd.func9, Tryd.ntmps9
      go_upto_region 1 with fail
      rw [← HW0.out]
      go_wp2_with (first
        | (go_at_call 23; refine (HSK.out _).mono ?_; rintro e w' ⟨rfl, hw'⟩; rw [hw']; clear hw' w')
        | (go_at_call 24; refine (HM.out _).mono ?_; rintro e w' ⟨rfl, hw'⟩; rw [hw']; clear hw' w'))
      refine bodyPost_ret (v := .tuple #[.slice none 0 0, .agg #[.slice none 0 0, .slice none 0 0, .int .i64 0], .int .i64 10]) (by simp only [set3] at y0 y1 y2; simp [results, Tryd.results9, go_sem, y0, y1, y2]) rfl ?_
      rw [show replyW k X n = (10, [], [], [], 0) from (by unfold replyW; rw [if_neg (fun h => h hk'.out), if_pos hx'.out])]
      exact ⟨_, _, rfl, Bs.nil _ _, (fun h => absurd h (by decide)), ⟨_, _, rfl, bs_nil _ _, bs_nil _ _⟩, OUT.out w0 _ _ _ (Below.refl _ _)⟩
  · rw [show okS k = false by simpa using hk] at HSK
    have hk' := Lib.hid hk
    clear hk hlm
    obtain ⟨z0, z1, z2, zf⟩ := FR.out w0 (Below.refl _ _); have zf0 := zf 0; have zf1 := zf 1; have zf2 := zf 2; obtain ⟨y0, y1, y2, _⟩ := RN.out w0 (.slice none 0 0) (.slice none 0 0) (.int .i64 0) (Below.refl _ _); clear zf
    go_enter Tryd.func9, Tryd.ntmps9
    go_upto_region 1 with fail
    rw [← HW0.out]
    go_wp2_with (go_at_call 23; refine (HSK.out _).mono ?_; rintro e w' ⟨rfl, hw'⟩; rw [hw']; clear hw' w')
    refine bodyPost_ret (v := .tuple #[.slice none 0 0, .agg #[.slice none 0 0, .slice none 0 0, .int .i64 0], .int .i64 3]) (by simp only [set3] at y0 y1 y2; simp [results, Tryd.results9, go_sem, y0, y1, y2]) rfl ?_
    rw [show replyW k X n = (3, [], [], [], 0) from (by unfold replyW; rw [if_pos hk'.out])]
    exact ⟨_, _, rfl, Bs.nil _ _, (fun h => absurd h (by decide)), ⟨_, _, rfl, bs_nil _ _, bs_nil _ _⟩, OUT.out w0 _ _ _ (Below.refl _ _)⟩
end Go.Proofs.YtnogcnmoeekcpaaDoor
