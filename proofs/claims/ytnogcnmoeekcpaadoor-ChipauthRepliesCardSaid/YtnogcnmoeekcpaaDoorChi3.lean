/- Chip authentication: Check, both sides. -/
import Derived.Test.YtnogcnmoeekcpaaDoorChi2
import Derived.Test.YtnogcnmoeekcpaaDoorQByteEq
namespace Go.Proofs.YtnogcnmoeekcpaaDoor
open Go.RowKit Go.Deep

theorem osame_any (va vb : Value) (a b : List UInt8) (S S' : Nat → Prop) (w : World) (ha : BsS w S va a) (hb : BsS w S' vb b) :
    Calls Tryd.prog 29 #[va, vb] w fun e w' => e = .returned (.bool (decide (a = b))) ∧ w' = w := by
  have H := Lib.hid (bequal_any va vb a b S S' w ha hb)
  clear ha hb
  go_enter Tryd.func29, Tryd.ntmps29
  go_wp2_with (go_at_call 45; refine H.out.mono ?_; rintro e w' ⟨rfl, hw'⟩; rw [hw']; clear hw' w')
  go_ret
  exact ⟨rfl, rfl⟩
/-- What Check returns: whether the token is accepted, both keys, the number. -/
def checkW (P k : Int) (n tk : List UInt8) : Bool × List UInt8 × List UInt8 × Int :=
  if ¬ (okS k = true ∧ elemP P = true ∧ n.length = 8) then (false, [], [], 0)
  else if (codeO (keyW (secW (gpw 64 1 P.toNat k.toNat : Nat) n) 2) (fourO (gpw 64 1 4 k.toNat : Nat))).take 8 = tk then (true, keyW (secW (gpw 64 1 P.toNat k.toNat : Nat) n) 1, keyW (secW (gpw 64 1 P.toNat k.toNat : Nat) n) 2, 0) else (false, [], [], 0)
def ChkOut (r : Bool × List UInt8 × List UInt8 × Int) (w : World) (e : Ending) (w' : World) : Prop :=
  ∃ s, e = .returned (.tuple #[s, .bool r.1]) ∧ SessL w' (New w w') s r.2.1 r.2.2.1 r.2.2.2 ∧ Below w.heap.size w w'
set_option maxRecDepth 100000 in
set_option maxHeartbeats 4000000 in
theorem ccheck_any (P k : Int) (v vt : Value) (n tk : List UInt8) (w : World) (hK : KD w) (hv : Bs w w.heap.size v n) (ht : Bs w w.heap.size vt tk) :
    Calls Tryd.prog 11 #[.int .i64 P, .int .i64 k, v, vt] w (ChkOut (checkW P k n tk) w) := by
  obtain ⟨w0, hw0⟩ : ∃ w0, w0 = w.alloc (.cells #[.slice none 0 0, .slice none 0 0, .int .i64 0] 25) := ⟨_, rfl⟩
  have hB0 : Below w.heap.size w w0 := by rw [hw0]; exact (Below.refl _ _).alloc (Nat.le_refl _) _
  have hz0 : w0.heap.size = w.heap.size + 1 := by rw [hw0]; simp
  have hh0 : w0.heap[w.heap.size]? = some (.cells #[.slice none 0 0, .slice none 0 0, .int .i64 0] 25 (0, 0)) := by rw [hw0]; exact heap_alloc_new _ _
  have hlt0 := (Array.getElem?_eq_some_iff.1 hh0).1
  have FR := Lib.hid (fun (W : World) (hb : Below w0.heap.size w0 W) => sess3 ((hb.block w.heap.size hlt0).trans hh0))
  have RW := Lib.hid (fun (W : World) (hb : Below w0.heap.size w0 W) => (hb.block w.heap.size hlt0).trans hh0)
  have RN := Lib.hid (fun (W : World) (a b c : Value) (hb : Below w0.heap.size w0 W) => sess3 (set3_row a b c ((hb.block w.heap.size hlt0).trans hh0)))
  have OUT := Lib.hid (fun (W : World) (a b c : Value) (hb : Below w0.heap.size w0 W) => (set3_below (a := a) (b := b) (c := c) (hB0.trans (hb.mono hB0.size)) (Nat.le_refl _) : Below w.heap.size w (set3 W w.heap.size a b c)))
  obtain ⟨A, m, c, rfl⟩ := hv.form
  obtain ⟨TA, tm, tc, rfl⟩ := ht.form
  have HT := Lib.hid (ht.lift hB0)
  have hlm := Bs.lenEq hv
  have HV := Lib.hid (hv.lift hB0)
  have HK := Lib.hid (hK.below hB0 hK.lt)
  have HW0 := Lib.hid hw0; have HB0 := Lib.hid hB0; have HZ0 := Lib.hid hz0
  clear hK hv ht hw0 hB0 hz0 hh0 hlt0
  have HSK := Lib.hid (fun w => csecret_any k w)
  have HM := Lib.hid (fun w => elem_any P w)
  by_cases hk : okS k = true
  · rw [hk] at HSK
    by_cases hx : elemP P = true
    · rw [hx] at HM
      by_cases hn : n.length = 8
      · have HE : Hid (checkW P k n tk = if (codeO (keyW (secW (gpw 64 1 P.toNat k.toNat : Nat) n) 2) (fourO (gpw 64 1 4 k.toNat : Nat))).take 8 = tk then (true, keyW (secW (gpw 64 1 P.toNat k.toNat : Nat) n) 1, keyW (secW (gpw 64 1 P.toNat k.toNat : Nat) n) 2, 0) else (false, [], [], 0)) := Lib.hid (by unfold checkW; rw [if_neg (fun h => h ⟨hk, hx, hn⟩)])
        obtain rfl : m = 8 := by omega
        have HN := Lib.hid hn; have HX := Lib.hid hx
        have h1 := okS_in hk; have h2 := elem_in hx
        obtain ⟨kk, rfl⟩ : ∃ q : Nat, k = q := ⟨k.toNat, by omega⟩
        have HSH := gshare_good kk P.toNat (by omega) (by omega) (by rw [Int.toNat_of_nonneg (by omega)]; exact hx) w0
        have HPU := Lib.hid (fun w => gpublic_good kk (by omega) (by omega) w)
        have HSE := share_elem P.toNat kk (by rw [Int.toNat_of_nonneg (by omega)]; exact hx) (by omega) (by omega)
        have HOE := Lib.hid (point_elem kk (by omega) (by omega))
        rw [Int.toNat_of_nonneg (by omega)] at HSH
        rw [Int.toNat_natCast] at HE
        obtain ⟨Z, hZ⟩ : ∃ Z, gpw 64 1 P.toNat kk = Z := ⟨_, rfl⟩
        rw [hZ] at HSH HSE HE
        obtain ⟨O, hO⟩ : ∃ O : Int, ((gpw 64 1 4 kk : Nat) : Int) = O := ⟨_, rfl⟩
        rw [hO] at HE HPU HOE
        have HSH := Lib.hid HSH; have HSE := Lib.hid HSE
        clear hk hx hn h1 h2 hZ hO hlm
        obtain ⟨o, ho9⟩ : ∃ o, decide (((codeO (keyW (secW Z n) 2) (fourO O)).take 8) = tk) = o := ⟨_, rfl⟩
        have HO9 := Lib.hid ho9
        clear ho9
        cases o with
        | true =>
          go_enter Tryd.func11, Tryd.ntmps11
          go_upto_region 1 with fail
          rw [← HW0.out]
          go_wp2_with (first
            | (go_at_call 29; refine (osame_any _ _ ((codeO (keyW (secW Z n) 2) (fourO O)).take 8) tk _ _ w2 HOB.out (HT.out.lift HB2.out)).mono ?_; rintro e w4 ⟨rfl, hw4⟩; rw [HO9.out, hw4]; clear hw4 w4)
            | (go_at_call 22; refine (token_any _ (keyW (secW Z n) 2) (keyW_len _ _) O HOE.out _ (BsS.keep H2.out (w' := fillS ws (.slice A1 16 c1) (.slice B1 16 d1) (.int .i64 0)) (S' := (· < (fillS ws (.slice A1 16 c1) (.slice B1 16 d1) (.int .i64 0)).heap.size)) fun g hg hl => ⟨(below_fillS ws (.slice A1 16 c1) (.slice B1 16 d1) (.int .i64 0)).block g hl, Nat.lt_of_lt_of_le hl (below_fillS ws (.slice A1 16 c1) (.slice B1 16 d1) (.int .i64 0)).size⟩)).mono ?_; rintro e w2 ⟨v2, rfl, ho, hb⟩; have hf : Below ws.heap.size ws w2 := (below_fillS ws (.slice A1 16 c1) (.slice B1 16 d1) (.int .i64 0)).trans (hb.mono (below_fillS ws (.slice A1 16 c1) (.slice B1 16 d1) (.int .i64 0)).size); have HOB : Hid (Bs w2 w2.heap.size v2 ((codeO (keyW (secW Z n) 2) (fourO O)).take 8)) := Lib.hid ((ho.bs (by rw [List.length_take]; omega)).keep fun _ hg _ => ⟨rfl, hg.2⟩); have HF := Lib.hid hf; have h2 : Below w0.heap.size w0 w2 := HBs.out.trans (hf.mono HBs.out.size); have HB2 := Lib.hid h2; clear q0 q1 q2 n0 n1 n2 nf0 nf1 nf2; obtain ⟨q0, q1, q2, _⟩ := sess3 ((hb.block ws.heap.size (fill_lt ws _ _ _)).trans (fill_row ws (.slice A1 16 c1) (.slice B1 16 d1) (.int .i64 0))); obtain ⟨z0, z1, z2, zf⟩ := FR.out w2 h2; have zf0 := zf 0; have zf1 := zf 1; have zf2 := zf 2; obtain ⟨y0, y1, y2, _⟩ := RN.out w2 (.slice A1 16 c1) (.slice B1 16 d1) (.int .i64 0) h2; clear zf; clear ho hb hf h2)
            | (go_at_call 28; refine (HPU.out _).mono ?_; rintro e w' ⟨rfl, hw'⟩; rw [hw']; clear hw' w')
            | (go_at_call 21; refine (csession_any (Z : Int) HSE.out _ n HN.out w0 HK.out HV.out).mono ?_; rintro e ws ⟨s1, rfl, ⟨A1, c1, B1, d1, rfl, h1, h2⟩, hb⟩; have H1 := Lib.hid h1; have H2 := Lib.hid h2; have HBs := Lib.hid hb; obtain ⟨n0, n1, n2, nf⟩ := sess3 (fresh_row ws); have nf0 := nf 0; have nf1 := nf 1; have nf2 := nf 2; clear nf; obtain ⟨q0, q1, q2, _⟩ := sess3 (fill_row ws (.slice A1 16 c1) (.slice B1 16 d1) (.int .i64 0)); clear h1 h2 hb)
            | (go_at_call 20; refine HSH.out.mono ?_; rintro e w' ⟨rfl, hw'⟩; rw [hw']; clear hw' w')
            | (go_at_call 18; refine (HSK.out _).mono ?_; rintro e w' ⟨rfl, hw'⟩; rw [hw']; clear hw' w')
            | (go_at_call 19; refine (HM.out _).mono ?_; rintro e w' ⟨rfl, hw'⟩; rw [hw']; clear hw' w'))
          refine bodyPost_ret (v := .tuple #[.agg #[.slice A1 16 c1, .slice B1 16 d1, .int .i64 0], .bool true]) (by simp only [set3] at y0 y1 y2; simp [results, Tryd.results11, go_sem, y0, y1, y2]) rfl ?_
          rw [show checkW P (kk : Int) n tk = (true, keyW (secW Z n) 1, keyW (secW Z n) 2, 0) by rw [HE.out, if_pos (of_decide_eq_true HO9.out)]]
          have s0 := HZ0.out; have s1 := HBs.out.size; have s2 := HF.out.size
          have hsz : (set3 w2 w.heap.size (.slice A1 16 c1) (.slice B1 16 d1) (.int .i64 0)).heap.size = w2.heap.size := (by simp [set3]); have hlt : ∀ g, g < w2.heap.size → g < (set3 w2 w.heap.size (.slice A1 16 c1) (.slice B1 16 d1) (.int .i64 0)).heap.size := fun g h => by rw [hsz]; exact h
          have hkeep : ∀ g, g ≠ w.heap.size → (set3 w2 w.heap.size (.slice A1 16 c1) (.slice B1 16 d1) (.int .i64 0)).heap[g]? = w2.heap[g]? := fun g hg => set3_other hg
          refine ⟨_, rfl, ⟨_, _, rfl, ?_, ?_⟩, OUT.out w2 _ _ _ HB2.out⟩
          · exact BsS.keep H1.out fun g hg hl => ⟨(hkeep g (by have := hg.1; omega)).trans (HF.out.block g hg.2), by have := hg.1; omega, hlt g (by have := hg.2; omega)⟩
          · exact BsS.keep H2.out fun g hg hl => ⟨(hkeep g (by have := hg.1; omega)).trans (HF.out.block g hg.2), by have := hg.1; omega, hlt g (by have := hg.2; omega)⟩
        | false =>
          go_enter Tryd.func11, Tryd.ntmps11
          go_upto_region 1 with fail
          rw [← HW0.out]
          go_wp2_with (first
            | (go_at_call 29; refine (osame_any _ _ ((codeO (keyW (secW Z n) 2) (fourO O)).take 8) tk _ _ w2 HOB.out (HT.out.lift HB2.out)).mono ?_; rintro e w4 ⟨rfl, hw4⟩; rw [HO9.out, hw4]; clear hw4 w4)
            | (go_at_call 22; refine (token_any _ (keyW (secW Z n) 2) (keyW_len _ _) O HOE.out _ (BsS.keep H2.out (w' := fillS ws (.slice A1 16 c1) (.slice B1 16 d1) (.int .i64 0)) (S' := (· < (fillS ws (.slice A1 16 c1) (.slice B1 16 d1) (.int .i64 0)).heap.size)) fun g hg hl => ⟨(below_fillS ws (.slice A1 16 c1) (.slice B1 16 d1) (.int .i64 0)).block g hl, Nat.lt_of_lt_of_le hl (below_fillS ws (.slice A1 16 c1) (.slice B1 16 d1) (.int .i64 0)).size⟩)).mono ?_; rintro e w2 ⟨v2, rfl, ho, hb⟩; have hf : Below ws.heap.size ws w2 := (below_fillS ws (.slice A1 16 c1) (.slice B1 16 d1) (.int .i64 0)).trans (hb.mono (below_fillS ws (.slice A1 16 c1) (.slice B1 16 d1) (.int .i64 0)).size); have HOB : Hid (Bs w2 w2.heap.size v2 ((codeO (keyW (secW Z n) 2) (fourO O)).take 8)) := Lib.hid ((ho.bs (by rw [List.length_take]; omega)).keep fun _ hg _ => ⟨rfl, hg.2⟩); have HF := Lib.hid hf; have h2 : Below w0.heap.size w0 w2 := HBs.out.trans (hf.mono HBs.out.size); have HB2 := Lib.hid h2; clear q0 q1 q2 n0 n1 n2 nf0 nf1 nf2; obtain ⟨q0, q1, q2, _⟩ := sess3 ((hb.block ws.heap.size (fill_lt ws _ _ _)).trans (fill_row ws (.slice A1 16 c1) (.slice B1 16 d1) (.int .i64 0))); obtain ⟨z0, z1, z2, zf⟩ := FR.out w2 h2; have zf0 := zf 0; have zf1 := zf 1; have zf2 := zf 2; obtain ⟨y0, y1, y2, _⟩ := RN.out w2 (.slice none 0 0) (.slice none 0 0) (.int .i64 0) h2; clear zf; clear ho hb hf h2)
            | (go_at_call 28; refine (HPU.out _).mono ?_; rintro e w' ⟨rfl, hw'⟩; rw [hw']; clear hw' w')
            | (go_at_call 21; refine (csession_any (Z : Int) HSE.out _ n HN.out w0 HK.out HV.out).mono ?_; rintro e ws ⟨s1, rfl, ⟨A1, c1, B1, d1, rfl, h1, h2⟩, hb⟩; have H1 := Lib.hid h1; have H2 := Lib.hid h2; have HBs := Lib.hid hb; obtain ⟨n0, n1, n2, nf⟩ := sess3 (fresh_row ws); have nf0 := nf 0; have nf1 := nf 1; have nf2 := nf 2; clear nf; obtain ⟨q0, q1, q2, _⟩ := sess3 (fill_row ws (.slice A1 16 c1) (.slice B1 16 d1) (.int .i64 0)); clear h1 h2 hb)
            | (go_at_call 20; refine HSH.out.mono ?_; rintro e w' ⟨rfl, hw'⟩; rw [hw']; clear hw' w')
            | (go_at_call 18; refine (HSK.out _).mono ?_; rintro e w' ⟨rfl, hw'⟩; rw [hw']; clear hw' w')
            | (go_at_call 19; refine (HM.out _).mono ?_; rintro e w' ⟨rfl, hw'⟩; rw [hw']; clear hw' w'))
          refine bodyPost_ret (v := .tuple #[.agg #[.slice none 0 0, .slice none 0 0, .int .i64 0], .bool false]) (by simp only [set3] at y0 y1 y2; simp [results, Tryd.results11, go_sem, y0, y1, y2]) rfl ?_
          rw [show checkW P (kk : Int) n tk = (false, [], [], 0) from (by rw [HE.out, if_neg (of_decide_eq_false HO9.out)])]
          exact ⟨_, rfl, ⟨_, _, rfl, bs_nil _ _, bs_nil _ _⟩, OUT.out w2 _ _ _ HB2.out⟩
      · have t2 : ((m : Int) != 8) = true := by simp; omega
        have hn' := Lib.hid hn
        clear hx hk hn hlm
        obtain ⟨z0, z1, z2, zf⟩ := FR.out w0 (Below.refl _ _); have zf0 := zf 0; have zf1 := zf 1; have zf2 := zf 2; obtain ⟨y0, y1, y2, _⟩ := RN.out w0 (.slice none 0 0) (.slice none 0 0) (.int .i64 0) (Below.refl _ _); clear zf
        go_enter Tryd.func11, Tryd.ntmps11
        go_upto_region 1 with fail
        rw [← HW0.out]
        go_wp2_with (first
          | (go_at_call 18; refine (HSK.out _).mono ?_; rintro e w' ⟨rfl, hw'⟩; rw [hw']; clear hw' w')
          | (go_at_call 19; refine (HM.out _).mono ?_; rintro e w' ⟨rfl, hw'⟩; rw [hw']; clear hw' w'))
        refine bodyPost_ret (v := .tuple #[.agg #[.slice none 0 0, .slice none 0 0, .int .i64 0], .bool false]) (by simp only [set3] at y0 y1 y2; simp [results, Tryd.results11, go_sem, y0, y1, y2]) rfl ?_
        rw [show checkW P k n tk = (false, [], [], 0) from (by unfold checkW; rw [if_pos (fun h => hn'.out h.2.2)])]
        exact ⟨_, rfl, ⟨_, _, rfl, bs_nil _ _, bs_nil _ _⟩, OUT.out w0 _ _ _ (Below.refl _ _)⟩
    · rw [show elemP P = false by simpa using hx] at HM
      have hx' := Lib.hid hx
      clear hx hk hlm
      obtain ⟨z0, z1, z2, zf⟩ := FR.out w0 (Below.refl _ _); have zf0 := zf 0; have zf1 := zf 1; have zf2 := zf 2; obtain ⟨y0, y1, y2, _⟩ := RN.out w0 (.slice none 0 0) (.slice none 0 0) (.int .i64 0) (Below.refl _ _); clear zf
      go_enter Tryd.func11, Tryd.ntmps11
      go_upto_region 1 with fail
      rw [← HW0.out]
      go_wp2_with (first
        | (go_at_call 18; refine (HSK.out _).mono ?_; rintro e w' ⟨rfl, hw'⟩; rw [hw']; clear hw' w')
        | (go_at_call 19; refine (HM.out _).mono ?_; rintro e w' ⟨rfl, hw'⟩; rw [hw']; clear hw' w'))
      refine bodyPost_ret (v := .tuple #[.agg #[.slice none 0 0, .slice none 0 0, .int .i64 0], .bool false]) (by simp only [set3] at y0 y1 y2; simp [results, Tryd.results11, go_sem, y0, y1, y2]) rfl ?_
      rw [show checkW P k n tk = (false, [], [], 0) from (by unfold checkW; rw [if_pos (fun h => hx'.out h.2.1)])]
      exact ⟨_, rfl, ⟨_, _, rfl, bs_nil _ _, bs_nil _ _⟩, OUT.out w0 _ _ _ (Below.refl _ _)⟩
  · rw [show okS k = false by simpa using hk] at HSK
    have hk' := Lib.hid hk
    clear hk hlm
    obtain ⟨z0, z1, z2, zf⟩ := FR.out w0 (Below.refl _ _); have zf0 := zf 0; have zf1 := zf 1; have zf2 := zf 2; obtain ⟨y0, y1, y2, _⟩ := RN.out w0 (.slice none 0 0) (.slice none 0 0) (.int .i64 0) (Below.refl _ _); clear zf
    go_enter Tryd.func11, Tryd.ntmps11
    go_upto_region 1 with fail
    rw [← HW0.out]
    go_wp2_with (go_at_call 18; refine (HSK.out _).mono ?_; rintro e w' ⟨rfl, hw'⟩; rw [hw']; clear hw' w')
    refine bodyPost_ret (v := .tuple #[.agg #[.slice none 0 0, .slice none 0 0, .int .i64 0], .bool false]) (by simp only [set3] at y0 y1 y2; simp [results, Tryd.results11, go_sem, y0, y1, y2]) rfl ?_
    rw [show checkW P k n tk = (false, [], [], 0) from (by unfold checkW; rw [if_pos (fun h => hk'.out h.1)])]
    exact ⟨_, rfl, ⟨_, _, rfl, bs_nil _ _, bs_nil _ _⟩, OUT.out w0 _ _ _ (Below.refl _ _)⟩
set_option maxRecDepth 100000 in
set_option maxHeartbeats 4000000 in
theorem rccheck_any (P k : Int) (v vt : Value) (n tk : List UInt8) (w : World) (hK : KR w) (hv : Bs w w.heap.size v n) (ht : Bs w w.heap.size vt tk) :
    Calls Tryd.prog 12 #[.int .i64 P, .int .i64 k, v, vt] w (ChkOut (checkW P k n tk) w) := by
  obtain ⟨w0, hw0⟩ : ∃ w0, w0 = w.alloc (.cells #[.slice none 0 0, .slice none 0 0, .int .i64 0] 25) := ⟨_, rfl⟩
  have hB0 : Below w.heap.size w w0 := by rw [hw0]; exact (Below.refl _ _).alloc (Nat.le_refl _) _
  have hz0 : w0.heap.size = w.heap.size + 1 := by rw [hw0]; simp
  have hh0 : w0.heap[w.heap.size]? = some (.cells #[.slice none 0 0, .slice none 0 0, .int .i64 0] 25 (0, 0)) := by rw [hw0]; exact heap_alloc_new _ _
  have hlt0 := (Array.getElem?_eq_some_iff.1 hh0).1
  have FR := Lib.hid (fun (W : World) (hb : Below w0.heap.size w0 W) => sess3 ((hb.block w.heap.size hlt0).trans hh0))
  have RW := Lib.hid (fun (W : World) (hb : Below w0.heap.size w0 W) => (hb.block w.heap.size hlt0).trans hh0)
  have RN := Lib.hid (fun (W : World) (a b c : Value) (hb : Below w0.heap.size w0 W) => sess3 (set3_row a b c ((hb.block w.heap.size hlt0).trans hh0)))
  have OUT := Lib.hid (fun (W : World) (a b c : Value) (hb : Below w0.heap.size w0 W) => (set3_below (a := a) (b := b) (c := c) (hB0.trans (hb.mono hB0.size)) (Nat.le_refl _) : Below w.heap.size w (set3 W w.heap.size a b c)))
  obtain ⟨A, m, c, rfl⟩ := hv.form
  obtain ⟨TA, tm, tc, rfl⟩ := ht.form
  have HT := Lib.hid (ht.lift hB0)
  have hlm := Bs.lenEq hv
  have HV := Lib.hid (hv.lift hB0)
  have HK := Lib.hid (hK.below hB0 hK.lt)
  have HW0 := Lib.hid hw0; have HB0 := Lib.hid hB0; have HZ0 := Lib.hid hz0
  clear hK hv ht hw0 hB0 hz0 hh0 hlt0
  have HSK := Lib.hid (fun w => rcsecret_any k w)
  have HM := Lib.hid (fun w => relem_any P w)
  by_cases hk : okS k = true
  · rw [hk] at HSK
    by_cases hx : elemP P = true
    · rw [hx] at HM
      by_cases hn : n.length = 8
      · have HE : Hid (checkW P k n tk = if (codeO (keyW (secW (gpw 64 1 P.toNat k.toNat : Nat) n) 2) (fourO (gpw 64 1 4 k.toNat : Nat))).take 8 = tk then (true, keyW (secW (gpw 64 1 P.toNat k.toNat : Nat) n) 1, keyW (secW (gpw 64 1 P.toNat k.toNat : Nat) n) 2, 0) else (false, [], [], 0)) := Lib.hid (by unfold checkW; rw [if_neg (fun h => h ⟨hk, hx, hn⟩)])
        obtain rfl : m = 8 := by omega
        have HN := Lib.hid hn; have HX := Lib.hid hx
        have h1 := okS_in hk; have h2 := elem_in hx
        obtain ⟨kk, rfl⟩ : ∃ q : Nat, k = q := ⟨k.toNat, by omega⟩
        have HSH := rgshare_good kk P.toNat (by omega) (by omega) (by rw [Int.toNat_of_nonneg (by omega)]; exact hx) w0
        have HPU := Lib.hid (fun w => rgpublic_good kk (by omega) (by omega) w)
        have HSE := share_elem P.toNat kk (by rw [Int.toNat_of_nonneg (by omega)]; exact hx) (by omega) (by omega)
        have HOE := Lib.hid (point_elem kk (by omega) (by omega))
        rw [Int.toNat_of_nonneg (by omega)] at HSH
        rw [Int.toNat_natCast] at HE
        obtain ⟨Z, hZ⟩ : ∃ Z, gpw 64 1 P.toNat kk = Z := ⟨_, rfl⟩
        rw [hZ] at HSH HSE HE
        obtain ⟨O, hO⟩ : ∃ O : Int, ((gpw 64 1 4 kk : Nat) : Int) = O := ⟨_, rfl⟩
        rw [hO] at HE HPU HOE
        have HSH := Lib.hid HSH; have HSE := Lib.hid HSE
        clear hk hx hn h1 h2 hZ hO hlm
        obtain ⟨o, ho9⟩ : ∃ o, decide (((codeO (keyW (secW Z n) 2) (fourO O)).take 8) = tk) = o := ⟨_, rfl⟩
        have HO9 := Lib.hid ho9
        clear ho9
        go_enter Tryd.func12, Tryd.ntmps12
        go_upto_region 1 with fail
        rw [← HW0.out]
        go_upto_region 6 with (first
          | (go_at_call 30; refine (HPU.out _).mono ?_; rintro e w' ⟨rfl, hw'⟩; rw [hw']; clear hw' w')
          | (go_at_call 26; refine (rcsession_any (Z : Int) HSE.out _ n HN.out w0 HK.out HV.out).mono ?_; rintro e ws ⟨s1, rfl, ⟨A1, c1, B1, d1, rfl, h1, h2⟩, hb⟩; have H1 := Lib.hid h1; have H2 := Lib.hid h2; have HBs := Lib.hid hb; obtain ⟨n0, n1, n2, nf⟩ := sess3 (fresh_row ws); have nf0 := nf 0; have nf1 := nf 1; have nf2 := nf 2; clear nf; obtain ⟨q0, q1, q2, _⟩ := sess3 (fill_row ws (.slice A1 16 c1) (.slice B1 16 d1) (.int .i64 0)); clear h1 h2 hb)
          | (go_at_call 25; refine HSH.out.mono ?_; rintro e w' ⟨rfl, hw'⟩; rw [hw']; clear hw' w')
          | (go_at_call 23; refine (HSK.out _).mono ?_; rintro e w' ⟨rfl, hw'⟩; rw [hw']; clear hw' w')
          | (go_at_call 24; refine (HM.out _).mono ?_; rintro e w' ⟨rfl, hw'⟩; rw [hw']; clear hw' w'))
        have hbs : Below ws.heap.size ws (ws.alloc (.cells #[.slice A1 16 c1, .slice B1 16 d1, .int .i64 0] 25)) := below_fillS ws (.slice A1 16 c1) (.slice B1 16 d1) (.int .i64 0)
        have hrow : (ws.alloc (.cells #[.slice A1 16 c1, .slice B1 16 d1, .int .i64 0] 25)).heap[ws.heap.size]? = some (.cells #[.slice A1 16 c1, .slice B1 16 d1, .int .i64 0] 25 (0, 0)) := fill_row ws (.slice A1 16 c1) (.slice B1 16 d1) (.int .i64 0)
        obtain ⟨w2, hw2⟩ : ∃ w2, w2 = ws.alloc (.cells #[.slice A1 16 c1, .slice B1 16 d1, .int .i64 0] 25) := ⟨_, rfl⟩
        rw [← hw2] at hbs hrow ⊢
        have hlt := (Array.getElem?_eq_some_iff.1 hrow).1
        have CS : Hid (∀ W, Below w2.heap.size w2 W → W.cell? ⟨ws.heap.size, 0, none⟩ = some (.slice A1 16 c1) ∧ W.cell? ⟨ws.heap.size, 1, none⟩ = some (.slice B1 16 d1) ∧ W.cell? ⟨ws.heap.size, 2, none⟩ = some (.int .i64 0)) := Lib.hid fun W h => (by obtain ⟨a, b, c, _⟩ := sess3 ((h.block ws.heap.size hlt).trans hrow); exact ⟨a, b, c⟩)
        have HB3 : Hid (Bs w2 w2.heap.size (.slice B1 16 d1) (keyW (secW Z n) 2)) := Lib.hid (BsS.keep H2.out fun g hg hl => ⟨hbs.block g hl, Nat.lt_of_lt_of_le hl hbs.size⟩)
        have HB2 : Hid (Below w0.heap.size w0 w2) := Lib.hid (HBs.out.trans (hbs.mono HBs.out.size))
        have HBS := Lib.hid hbs
        clear hbs hrow hlt hw2 q0 q1 q2 n0 n1 n2 nf0 nf1 nf2
        cases o with
        | true =>
          refine wp_region_rg 7 [some 43, some 44, some 45, some 46, some 47, some 48, some 49] [[], [], [0, 1], [0, 1, 2], [], [4], [0, 1, 2, 3, 4, 5]]
            (fun _ _ w1 => Below w2.heap.size w2 w1) (fun w1 w2 => Below w1.heap.size w1 w2)
            [fun v _ => v 0 = .agg #[.slice A1 16 c1, .slice B1 16 d1, .int .i64 0],
             fun v _ => v 1 = .int .i64 O,
             fun v w1 => ∃ a c, v 2 = .slice a 8 c ∧ Bs w1 w1.heap.size (.slice a 8 c) ((codeO (keyW (secW Z n) 2) (fourO O)).take 8),
             fun v _ => v 3 = .string ⟨((codeO (keyW (secW Z n) 2) (fourO O)).take 8).toArray⟩,
             fun v _ => v 4 = .slice TA tm tc,
             fun v _ => v 5 = .string ⟨tk.toArray⟩,
             fun v _ => v 6 = .bool false]
            (by kernel_rfl) (by kernel_rfl) (fun _ => (Below.refl _ _).drew) ?st ?steps ?tail
          case st =>
            exact (.cons (fun _ _ _ _ _ _ h => h) (.cons (fun _ _ _ _ _ _ h => h) (.cons (fun _ _ _ _ _ hr ⟨a, c, e, h⟩ => ⟨a, c, e, h.lift hr⟩) (.cons (fun _ _ _ _ _ _ h => h) (.cons (fun _ _ _ _ _ _ h => h) (.cons (fun _ _ _ _ _ _ h => h) (.cons (fun _ _ _ _ _ _ h => h) .nil)))))))
          case steps =>
            simp only [List.take_succ_cons, List.take_zero]
            refine (.cons ?_ (.cons ?_ (.cons ?_ (.cons ?_ (.cons ?_ (.cons ?_ (.cons ?_ .nil)))))))
            all_goals (intro L v w1 hJ hL hA hF K hK; simp only [fillRG, Act.put, Nat.zero_add, Nat.reduceAdd, List.setIfInBounds_toArray, List.set_cons_zero, List.set_cons_succ] at hK ⊢)
            · obtain ⟨c0, c1, c2⟩ := CS.out _ hJ
              go_simp
              refine hK _ _ hJ (Below.refl _ _) ?_
              first | exact rfl | exact val_mod _
            · go_simp
              refine hK _ _ hJ (Below.refl _ _) ?_
              first | exact rfl | exact val_mod _
            · have e0 : v 0 = .agg #[.slice A1 16 c1, .slice B1 16 d1, .int .i64 0] := hF 0 (hA 0 (by simp))
              have e1 : v 1 = .int .i64 O := hF 1 (hA 1 (by simp))
              simp only [e0, e1] at hK
              go_simp
              refine (rtoken_any _ _ _ (keyW (secW Z n) 2) (keyW_len _ _) O HOE.out w1 (HB3.out.lift hJ)).mono ?_
              rintro e w5 ⟨v5, rfl, ho, hb⟩
              obtain ⟨a5, c5, hv5⟩ : ∃ A c, v5 = .slice A 8 c := (by obtain ⟨a, c, e, _⟩ := ho; rw [List.length_take, codeO_len (keyW_len _ _)] at e; exact ⟨a, c, e⟩)
              subst hv5
              exact hK _ _ (hJ.trans (hb.mono hJ.size)) hb ⟨a5, c5, rfl, ho⟩
            · obtain ⟨a, c, e2, h2⟩ : ∃ a c, v 2 = .slice a 8 c ∧ Bs w1 w1.heap.size (.slice a 8 c) ((codeO (keyW (secW Z n) 2) (fourO O)).take 8) := hF 2 (hA 2 (by simp))
              have hs := str_run h2
              simp only [e2] at hK
              go_simp
              exact hK _ _ hJ (Below.refl _ _) rfl
            · go_simp
              refine hK _ _ hJ (Below.refl _ _) ?_
              first | exact rfl | exact val_mod _
            · have e4 : v 4 = .slice TA tm tc := hF 4 (hA 4 (by simp))
              simp only [e4] at hK
              have hs := str_run ((HT.out.lift HB2.out).lift hJ)
              go_simp
              exact hK _ _ hJ (Below.refl _ _) rfl
            · have e3 : v 3 = .string ⟨((codeO (keyW (secW Z n) 2) (fourO O)).take 8).toArray⟩ := hF 3 (hA 3 (by simp))
              have e5 : v 5 = .string ⟨tk.toArray⟩ := hF 5 (hA 5 (by simp))
              simp only [e3, e5] at hK
              go_simp
              refine hK _ _ hJ (Below.refl _ _) (congrArg Value.bool ?_)
              simp [of_decide_eq_true HO9.out]
          case tail =>
            intro v w1 hJ hF
            have e0 : v 0 = .agg #[.slice A1 16 c1, .slice B1 16 d1, .int .i64 0] := hF 0 (by simp)
            have e1 : v 1 = .int .i64 O := hF 1 (by simp)
            have e3 : v 3 = .string ⟨((codeO (keyW (secW Z n) 2) (fourO O)).take 8).toArray⟩ := hF 3 (by simp)
            have e4 : v 4 = .slice TA tm tc := hF 4 (by simp)
            have e5 : v 5 = .string ⟨tk.toArray⟩ := hF 5 (by simp)
            have e6 : v 6 = .bool false := hF 6 (by simp)
            obtain ⟨a9, c9, e2, hy⟩ : ∃ a c, v 2 = .slice a 8 c ∧ Bs w1 w1.heap.size (.slice a 8 c) ((codeO (keyW (secW Z n) 2) (fourO O)).take 8) := hF 2 (by simp)
            simp only [List.drop_succ_cons, List.drop_zero, fillRG, Act.put, Nat.zero_add, Nat.reduceAdd, List.setIfInBounds_toArray, List.set_cons_zero, List.set_cons_succ]
            simp only [e2, e3, e4, e5, e6]
            clear e0 e1 e2 e3 e4 e5 e6 hy
            have h1 : Below w0.heap.size w0 w1 := HB2.out.trans (hJ.mono HB2.out.size)
            have HJ := Lib.hid hJ; have H01 := Lib.hid h1
            obtain ⟨q0, q1, q2⟩ := CS.out w1 hJ
            obtain ⟨z0, z1, z2, zf⟩ := FR.out w1 h1; have zf0 := zf 0; have zf1 := zf 1; have zf2 := zf 2; obtain ⟨y0, y1, y2, _⟩ := RN.out w1 (.slice A1 16 c1) (.slice B1 16 d1) (.int .i64 0) h1; clear zf
            clear h1 hJ hF
            go_wp2_with fail
            refine bodyPost_ret (v := .tuple #[.agg #[.slice A1 16 c1, .slice B1 16 d1, .int .i64 0], .bool true]) (by simp only [set3] at y0 y1 y2; simp [results, Tryd.results12, go_sem, y0, y1, y2]) rfl ?_
            rw [show checkW P (kk : Int) n tk = (true, keyW (secW Z n) 1, keyW (secW Z n) 2, 0) by rw [HE.out, if_pos (of_decide_eq_true HO9.out)]]
            have s0 := HZ0.out; have s1 := HBS.out.size; have s2 := HJ.out.size; have sB := HB2.out.size; have s3 := HBs.out.size
            have hsz : (set3 w1 w.heap.size (.slice A1 16 c1) (.slice B1 16 d1) (.int .i64 0)).heap.size = w1.heap.size := (by simp [set3]); have hlt : ∀ g, g < w1.heap.size → g < (set3 w1 w.heap.size (.slice A1 16 c1) (.slice B1 16 d1) (.int .i64 0)).heap.size := fun g h => by rw [hsz]; exact h
            have hkeep : ∀ g, g ≠ w.heap.size → (set3 w1 w.heap.size (.slice A1 16 c1) (.slice B1 16 d1) (.int .i64 0)).heap[g]? = w1.heap[g]? := fun g hg => set3_other hg
            refine ⟨_, rfl, ⟨_, _, rfl, ?_, ?_⟩, OUT.out w1 _ _ _ H01.out⟩
            · exact BsS.keep H1.out fun g hg hl => ⟨(hkeep g (by have := hg.1; omega)).trans ((HJ.out.block g (by have := hg.2; omega)).trans (HBS.out.block g hg.2)), by have := hg.1; omega, hlt g (by have := hg.2; omega)⟩
            · exact BsS.keep H2.out fun g hg hl => ⟨(hkeep g (by have := hg.1; omega)).trans ((HJ.out.block g (by have := hg.2; omega)).trans (HBS.out.block g hg.2)), by have := hg.1; omega, hlt g (by have := hg.2; omega)⟩
        | false =>
          refine wp_region_rg 7 [some 43, some 44, some 45, some 46, some 47, some 48, some 49] [[], [], [0, 1], [0, 1, 2], [], [4], [0, 1, 2, 3, 4, 5]]
            (fun _ _ w1 => Below w2.heap.size w2 w1) (fun w1 w2 => Below w1.heap.size w1 w2)
            [fun v _ => v 0 = .agg #[.slice A1 16 c1, .slice B1 16 d1, .int .i64 0],
             fun v _ => v 1 = .int .i64 O,
             fun v w1 => ∃ a c, v 2 = .slice a 8 c ∧ Bs w1 w1.heap.size (.slice a 8 c) ((codeO (keyW (secW Z n) 2) (fourO O)).take 8),
             fun v _ => v 3 = .string ⟨((codeO (keyW (secW Z n) 2) (fourO O)).take 8).toArray⟩,
             fun v _ => v 4 = .slice TA tm tc,
             fun v _ => v 5 = .string ⟨tk.toArray⟩,
             fun v _ => v 6 = .bool true]
            (by kernel_rfl) (by kernel_rfl) (fun _ => (Below.refl _ _).drew) ?st ?steps ?tail
          case st =>
            exact (.cons (fun _ _ _ _ _ _ h => h) (.cons (fun _ _ _ _ _ _ h => h) (.cons (fun _ _ _ _ _ hr ⟨a, c, e, h⟩ => ⟨a, c, e, h.lift hr⟩) (.cons (fun _ _ _ _ _ _ h => h) (.cons (fun _ _ _ _ _ _ h => h) (.cons (fun _ _ _ _ _ _ h => h) (.cons (fun _ _ _ _ _ _ h => h) .nil)))))))
          case steps =>
            simp only [List.take_succ_cons, List.take_zero]
            refine (.cons ?_ (.cons ?_ (.cons ?_ (.cons ?_ (.cons ?_ (.cons ?_ (.cons ?_ .nil)))))))
            all_goals (intro L v w1 hJ hL hA hF K hK; simp only [fillRG, Act.put, Nat.zero_add, Nat.reduceAdd, List.setIfInBounds_toArray, List.set_cons_zero, List.set_cons_succ] at hK ⊢)
            · obtain ⟨c0, c1, c2⟩ := CS.out _ hJ
              go_simp
              refine hK _ _ hJ (Below.refl _ _) ?_
              first | exact rfl | exact val_mod _
            · go_simp
              refine hK _ _ hJ (Below.refl _ _) ?_
              first | exact rfl | exact val_mod _
            · have e0 : v 0 = .agg #[.slice A1 16 c1, .slice B1 16 d1, .int .i64 0] := hF 0 (hA 0 (by simp))
              have e1 : v 1 = .int .i64 O := hF 1 (hA 1 (by simp))
              simp only [e0, e1] at hK
              go_simp
              refine (rtoken_any _ _ _ (keyW (secW Z n) 2) (keyW_len _ _) O HOE.out w1 (HB3.out.lift hJ)).mono ?_
              rintro e w5 ⟨v5, rfl, ho, hb⟩
              obtain ⟨a5, c5, hv5⟩ : ∃ A c, v5 = .slice A 8 c := (by obtain ⟨a, c, e, _⟩ := ho; rw [List.length_take, codeO_len (keyW_len _ _)] at e; exact ⟨a, c, e⟩)
              subst hv5
              exact hK _ _ (hJ.trans (hb.mono hJ.size)) hb ⟨a5, c5, rfl, ho⟩
            · obtain ⟨a, c, e2, h2⟩ : ∃ a c, v 2 = .slice a 8 c ∧ Bs w1 w1.heap.size (.slice a 8 c) ((codeO (keyW (secW Z n) 2) (fourO O)).take 8) := hF 2 (hA 2 (by simp))
              have hs := str_run h2
              simp only [e2] at hK
              go_simp
              exact hK _ _ hJ (Below.refl _ _) rfl
            · go_simp
              refine hK _ _ hJ (Below.refl _ _) ?_
              first | exact rfl | exact val_mod _
            · have e4 : v 4 = .slice TA tm tc := hF 4 (hA 4 (by simp))
              simp only [e4] at hK
              have hs := str_run ((HT.out.lift HB2.out).lift hJ)
              go_simp
              exact hK _ _ hJ (Below.refl _ _) rfl
            · have e3 : v 3 = .string ⟨((codeO (keyW (secW Z n) 2) (fourO O)).take 8).toArray⟩ := hF 3 (hA 3 (by simp))
              have e5 : v 5 = .string ⟨tk.toArray⟩ := hF 5 (hA 5 (by simp))
              simp only [e3, e5] at hK
              go_simp
              refine hK _ _ hJ (Below.refl _ _) (congrArg Value.bool ?_)
              simp [of_decide_eq_false HO9.out]
          case tail =>
            intro v w1 hJ hF
            have e0 : v 0 = .agg #[.slice A1 16 c1, .slice B1 16 d1, .int .i64 0] := hF 0 (by simp)
            have e1 : v 1 = .int .i64 O := hF 1 (by simp)
            have e3 : v 3 = .string ⟨((codeO (keyW (secW Z n) 2) (fourO O)).take 8).toArray⟩ := hF 3 (by simp)
            have e4 : v 4 = .slice TA tm tc := hF 4 (by simp)
            have e5 : v 5 = .string ⟨tk.toArray⟩ := hF 5 (by simp)
            have e6 : v 6 = .bool true := hF 6 (by simp)
            obtain ⟨a9, c9, e2, hy⟩ : ∃ a c, v 2 = .slice a 8 c ∧ Bs w1 w1.heap.size (.slice a 8 c) ((codeO (keyW (secW Z n) 2) (fourO O)).take 8) := hF 2 (by simp)
            simp only [List.drop_succ_cons, List.drop_zero, fillRG, Act.put, Nat.zero_add, Nat.reduceAdd, List.setIfInBounds_toArray, List.set_cons_zero, List.set_cons_succ]
            simp only [e2, e3, e4, e5, e6]
            clear e0 e1 e2 e3 e4 e5 e6 hy
            have h1 : Below w0.heap.size w0 w1 := HB2.out.trans (hJ.mono HB2.out.size)
            have HJ := Lib.hid hJ; have H01 := Lib.hid h1
            obtain ⟨q0, q1, q2⟩ := CS.out w1 hJ
            obtain ⟨z0, z1, z2, zf⟩ := FR.out w1 h1; have zf0 := zf 0; have zf1 := zf 1; have zf2 := zf 2; obtain ⟨y0, y1, y2, _⟩ := RN.out w1 (.slice none 0 0) (.slice none 0 0) (.int .i64 0) h1; clear zf
            clear h1 hJ hF
            skip
            go_wp2_with fail
            refine bodyPost_ret (v := .tuple #[.agg #[.slice none 0 0, .slice none 0 0, .int .i64 0], .bool false]) (by simp only [set3] at y0 y1 y2; simp [results, Tryd.results12, go_sem, y0, y1, y2]) rfl ?_
            rw [show checkW P (kk : Int) n tk = (false, [], [], 0) from (by rw [HE.out, if_neg (of_decide_eq_false HO9.out)])]
            exact ⟨_, rfl, ⟨_, _, rfl, bs_nil _ _, bs_nil _ _⟩, OUT.out w1 _ _ _ H01.out⟩
      · have t2 : ((m : Int) != 8) = true := by simp; omega
        have hn' := Lib.hid hn
        clear hx hk hn hlm
        obtain ⟨z0, z1, z2, zf⟩ := FR.out w0 (Below.refl _ _); have zf0 := zf 0; have zf1 := zf 1; have zf2 := zf 2; obtain ⟨y0, y1, y2, _⟩ := RN.out w0 (.slice none 0 0) (.slice none 0 0) (.int .i64 0) (Below.refl _ _); clear zf
        go_enter Tryd.func12, Tryd.ntmps12
        go_upto_region 1 with fail
        rw [← HW0.out]
        go_wp2_with (first
          | (go_at_call 23; refine (HSK.out _).mono ?_; rintro e w' ⟨rfl, hw'⟩; rw [hw']; clear hw' w')
          | (go_at_call 24; refine (HM.out _).mono ?_; rintro e w' ⟨rfl, hw'⟩; rw [hw']; clear hw' w'))
        refine bodyPost_ret (v := .tuple #[.agg #[.slice none 0 0, .slice none 0 0, .int .i64 0], .bool false]) (by simp only [set3] at y0 y1 y2; simp [results, Tryd.results12, go_sem, y0, y1, y2]) rfl ?_
        rw [show checkW P k n tk = (false, [], [], 0) from (by unfold checkW; rw [if_pos (fun h => hn'.out h.2.2)])]
        exact ⟨_, rfl, ⟨_, _, rfl, bs_nil _ _, bs_nil _ _⟩, OUT.out w0 _ _ _ (Below.refl _ _)⟩
    · rw [show elemP P = false by simpa using hx] at HM
      have hx' := Lib.hid hx
      clear hx hk hlm
      obtain ⟨z0, z1, z2, zf⟩ := FR.out w0 (Below.refl _ _); have zf0 := zf 0; have zf1 := zf 1; have zf2 := zf 2; obtain ⟨y0, y1, y2, _⟩ := RN.out w0 (.slice none 0 0) (.slice none 0 0) (.int .i64 0) (Below.refl _ _); clear zf
      go_enter Tryd.func12, Tryd.ntmps12
      go_upto_region 1 with fail
      rw [← HW0.out]
      go_wp2_with (first
        | (go_at_call 23; refine (HSK.out _).mono ?_; rintro e w' ⟨rfl, hw'⟩; rw [hw']; clear hw' w')
        | (go_at_call 24; refine (HM.out _).mono ?_; rintro e w' ⟨rfl, hw'⟩; rw [hw']; clear hw' w'))
      refine bodyPost_ret (v := .tuple #[.agg #[.slice none 0 0, .slice none 0 0, .int .i64 0], .bool false]) (by simp only [set3] at y0 y1 y2; simp [results, Tryd.results12, go_sem, y0, y1, y2]) rfl ?_
      rw [show checkW P k n tk = (false, [], [], 0) from (by unfold checkW; rw [if_pos (fun h => hx'.out h.2.1)])]
      exact ⟨_, rfl, ⟨_, _, rfl, bs_nil _ _, bs_nil _ _⟩, OUT.out w0 _ _ _ (Below.refl _ _)⟩
  · rw [show okS k = false by simpa using hk] at HSK
    have hk' := Lib.hid hk
    clear hk hlm
    obtain ⟨z0, z1, z2, zf⟩ := FR.out w0 (Below.refl _ _); have zf0 := zf 0; have zf1 := zf 1; have zf2 := zf 2; obtain ⟨y0, y1, y2, _⟩ := RN.out w0 (.slice none 0 0) (.slice none 0 0) (.int .i64 0) (Below.refl _ _); clear zf
    go_enter Tryd.func12, Tryd.ntmps12
    go_upto_region 1 with fail
    rw [← HW0.out]
    go_wp2_with (go_at_call 23; refine (HSK.out _).mono ?_; rintro e w' ⟨rfl, hw'⟩; rw [hw']; clear hw' w')
    refine bodyPost_ret (v := .tuple #[.agg #[.slice none 0 0, .slice none 0 0, .int .i64 0], .bool false]) (by simp only [set3] at y0 y1 y2; simp [results, Tryd.results12, go_sem, y0, y1, y2]) rfl ?_
    rw [show checkW P k n tk = (false, [], [], 0) from (by unfold checkW; rw [if_pos (fun h => hk'.out h.1)])]
    exact ⟨_, rfl, ⟨_, _, rfl, bs_nil _ _, bs_nil _ _⟩, OUT.out w0 _ _ _ (Below.refl _ _)⟩
end Go.Proofs.YtnogcnmoeekcpaaDoor
