/- Bytes beside the dice. -/
import Derived.Test.YtjbmmdcnccclaaaDoorQSpoil
import Derived.Test.YtjbmmdcnccclaaaDoorBas6
import Derived.Test.YtjbmmdcnccclaaaDoorQAwB
import Derived.Test.YtjbmmdcnccclaaaDoorExact
import Derived.Test.YtjbmmdcnccclaaaDoorBas10
import Derived.Deep.CutBlock
namespace Go.Proofs.YtjbmmdcnccclaaaDoor
open Go.RowKit Go.Deep

theorem BsS.dieB {B n : Nat} {w w' : World} {p : Nat} {v : Value} {l : List UInt8} (h : BsS w (fun b => b < w.heap.size ∧ b ≠ p) v l) (hd : DiePost B w p n w') : BsS w' (fun b => b < w'.heap.size ∧ b ≠ p) v l :=
  h.keep fun b hs hl => ⟨hd.2.block b hl (fun e => by injection e with e; exact hs.2 e), Nat.lt_of_lt_of_le hl hd.2.size, hs.2⟩
theorem BsS.onB {w w' : World} {p : Nat} {v : Value} {l : List UInt8} (h : BsS w (fun b => b < w.heap.size ∧ b ≠ p) v l) (hb : Below w.heap.size w w') : BsS w' (fun b => b < w'.heap.size ∧ b ≠ p) v l :=
  h.keep fun b hs hl => ⟨hb.block b hl, Nat.lt_of_lt_of_le hl hb.size, hs.2⟩
theorem BsS.madeB {w w' : World} {p : Nat} {v : Value} {l : List UInt8} (h : BsS w' (New w w') v l) (hp : p < w.heap.size) : BsS w' (fun b => b < w'.heap.size ∧ b ≠ p) v l :=
  h.keep fun b hs _ => ⟨rfl, hs.2, by have := hs.1; omega⟩
theorem BsS.loB {w : World} {p : Nat} {v : Value} {l : List UInt8} (h : BsS w (fun b => b < w.heap.size ∧ b ≠ p) v l) : Bs w w.heap.size v l := h.keep fun _ hs _ => ⟨rfl, hs.1⟩
theorem wf_i64' {z : Int} (h : (Lit.int .i64 z).wf = true) : I64in z := by
  simp [Lit.wf, IntKind.min, IntKind.max, IntKind.signed, IntKind.bits] at h
  exact ⟨by omega, by omega⟩
/-- A new session, empty, then filled. -/
abbrev freshS (w : World) : World := w.alloc (.cells #[.slice none 0 0, .slice none 0 0, .int .i64 0] 40)
theorem fresh_row (w : World) : (w.alloc (.cells #[.slice none 0 0, .slice none 0 0, .int .i64 0] 40)).heap[w.heap.size]? = some (.cells #[.slice none 0 0, .slice none 0 0, .int .i64 0] 40 (0, 0)) := heap_alloc_new _ _
abbrev fillS (w : World) (a b c : Value) : World := w.alloc (.cells #[a, b, c] 40)
theorem fill_size (w : World) (a b c : Value) : (fillS w a b c).heap.size = w.heap.size + 1 := by simp
theorem fill_lt (w : World) (a b c : Value) : w.heap.size < (fillS w a b c).heap.size := by rw [fill_size]; omega
theorem fill_row (w : World) (a b c : Value) : (fillS w a b c).heap[w.heap.size]? = some (.cells #[a, b, c] 40 (0, 0)) := heap_alloc_new _ _
theorem below_fill {w w' : World} (h : Below w.heap.size w w') {a b c : Value} : Below w.heap.size w (fillS w' a b c) := h.alloc h.size _
theorem below_fillS (w : World) (a b c : Value) : Below w.heap.size w (fillS w a b c) := below_fill (Below.refl _ _)
end Go.Proofs.YtjbmmdcnccclaaaDoor
/- Values of bytes beside the dice, all in one word. -/
namespace Go.Proofs.YtjbmmdcnccclaaaDoor
open Go.RowKit Go.Deep

/-- The dice of n numbers stand in the block behind w; the values of L read as bytes beside them. -/
def BA (w : World) (n : Nat) (wx : World) (L : List (Value × List UInt8)) : Prop :=
  Die (w.heap.size + 1) wx w.heap.size n ∧ Below w.heap.size w wx ∧ ∀ x ∈ L, BsS wx (fun b => b < wx.heap.size ∧ b ≠ w.heap.size) x.1 x.2
section
variable {w wx wy : World} {n : Nat} {L : List (Value × List UInt8)}
theorem BA.die (h : BA w n wx L) : Die (w.heap.size + 1) wx w.heap.size n := h.1
theorem BA.bel (h : BA w n wx L) : Below w.heap.size w wx := h.2.1
theorem BA.lt (h : BA w n wx L) : w.heap.size < wx.heap.size := h.1.le
theorem BA.at (h : BA w n wx L) (i : Nat) {v : Value} {l : List UInt8} (hi : L[i]? = some (v, l)) : BsS wx (fun b => b < wx.heap.size ∧ b ≠ w.heap.size) v l := h.2.2 (v, l) (List.mem_of_getElem? hi)
theorem BA.dice (h : BA w n wx L) (hd : DiePost (w.heap.size + 1) wx w.heap.size n wy) : BA w n wy L :=
  ⟨hd.1, h.2.1.grown hd.2 h.2.1.size (fun k e => by injection e with e; omega), fun x hx => (h.2.2 x hx).dieB hd⟩
theorem BA.on (h : BA w n wx L) (hb : Below wx.heap.size wx wy) : BA w n wy L :=
  ⟨h.1.below (hb.mono h.1.le), h.2.1.trans (hb.mono h.2.1.size), fun x hx => (h.2.2 x hx).onB hb⟩
theorem BA.add (h : BA w n wx L) {wz : World} (hp : w.heap.size < wz.heap.size) {v : Value} {l : List UInt8} (hv : BsS wx (New wz wx) v l) : BA w n wx ((v, l) :: L) :=
  ⟨h.1, h.2.1, fun x hx => by
    rcases List.mem_cons.1 hx with rfl | hx
    · exact hv.madeB hp
    · exact h.2.2 x hx⟩
/-- Other values in place of these. -/
theorem BA.but (h : BA w n wx L) (L' : List (Value × List UInt8)) (hl : ∀ x ∈ L', x ∈ L) : BA w n wx L' := ⟨h.1, h.2.1, fun x hx => h.2.2 x (hl x hx)⟩
theorem BA.nil (hd : Die (w.heap.size + 1) wx w.heap.size n) (hb : Below w.heap.size w wx) : BA w n wx [] := ⟨hd, hb, fun _ h => by simp at h⟩
theorem BA.arg (h : BA w n wx L) {v : Value} {l : List UInt8} (hv : Bs w w.heap.size v l) : BA w n wx ((v, l) :: L) :=
  ⟨h.1, h.2.1, fun x hx => by
    rcases List.mem_cons.1 hx with rfl | hx
    · exact BsS.keep hv fun g hg _ => ⟨h.2.1.block g hg, Nat.lt_of_lt_of_le hg h.2.1.size, by omega⟩
    · exact h.2.2 x hx⟩
end
end Go.Proofs.YtjbmmdcnccclaaaDoor
/- Layer 20: BasicAnswers. -/
namespace Go.Proofs.YtjbmmdcnccclaaaDoor
open Go.RowKit Go.Deep

theorem askL_le (a b c d : List UInt8) : (askL a b c d).length ≤ 40 := by
  by_cases h : askOK a b c d
  · have := ask_len h.1 h.2.2.1 h.2.2.2 h.2.1
    omega
  · unfold askL
    rw [if_neg h]
    simp
theorem take8_le (l : List UInt8) : (l.take 8).length ≤ 8 := by rw [List.length_take]; omega
theorem ansW_le (a b c d : List UInt8) : (ansW a b c d).2.1.length ≤ 40 := by
  unfold ansW
  split
  · simp
  · split
    · simp
    · split
      · simp
      · rename_i h0 h1 h2
        have h0 : a.length = 16 ∧ c.length = 16 ∧ b.length = 8 ∧ d.length = 40 := Classical.byContradiction h0
        have h2 : ((plainW a d).drop 8).take 8 = b := Classical.byContradiction h2
        have hp : (plainW a d).length = 32 := plainW_len a d h0.2.2.2
        exact Nat.le_of_eq (msgW_len a _ (by simp [List.length_append, hp, h0.2.1, h0.2.2.1]))
set_option maxRecDepth 100000 in
set_option maxHeartbeats 8000000 in
theorem basicAnswers_law (v : Value) (n : Nat) (r : Value) (lr : List UInt8) (hlr : lr.length ≤ 140737488351232) (w : World) (hK : KR w ∧ KD w) (hv : IntsS w (· < w.heap.size) v n) (hr : Bs w w.heap.size r lr) : Calls Tryd.prog 4 #[v, r] w fun e w' => e = .returned (.bool true) ∧ Below w.heap.size w w' := by
  have HL := Lib.hid (light_any _ v n w hv)
  have HR := Lib.hid (roll_any v n w hv)
  have HK := Lib.hid hK
  have HRAW := Lib.hid hr
  obtain ⟨va, vc, rfl⟩ := hv.form
  clear hv hK hr hlr
  by_cases hn : (n : Int) ≤ 400
  · have hn1 : decide ((n : Int) ≤ 400) = true := decide_eq_true hn
    rw [hn1] at HL
    clear hn hn1
    go_enter Tryd.func4, Tryd.ntmps4
    go_upto_block 0 with (first
      | (go_at_call 13; refine HL.out.mono ?_; rintro e w' ⟨rfl, hw'⟩; rw [hw']; clear hw' w')
      | (go_at_call 14; refine HR.out.mono ?_; rintro e w1 ⟨rfl, hd, hb⟩; have H1 := Lib.hid ((BA.nil hd hb).arg HRAW.out); clear hd hb)
      | (go_at_call 15; refine (exactly_any _ _ n 16 16 rfl w5 H5.out.die (by decide)).mono ?_; rintro e w6 ⟨v5, l5, rfl, hs, hl, hd⟩; have H6 := Lib.hid ((H5.out.dice hd).add H5.out.lt hs); clear hs hl hd)
      | (go_at_call 15; refine (exactly_any _ _ n 16 16 rfl w4 H4.out.die (by decide)).mono ?_; rintro e w5 ⟨v4, l4, rfl, hs, hl, hd⟩; have H5 := Lib.hid ((H4.out.dice hd).add H4.out.lt hs); clear hs hl hd)
      | (go_at_call 15; refine (exactly_any _ _ n 8 8 rfl w3 H3.out.die (by decide)).mono ?_; rintro e w4 ⟨v3, l3, rfl, hs, hl, hd⟩; have H4 := Lib.hid ((H3.out.dice hd).add H3.out.lt hs); clear hs hl hd)
      | (go_at_call 15; refine (exactly_any _ _ n 8 8 rfl w2 H2.out.die (by decide)).mono ?_; rintro e w3 ⟨v2, l2, rfl, hs, hl, hd⟩; have H3 := Lib.hid ((H2.out.dice hd).add H2.out.lt hs); clear hs hl hd)
      | (go_at_call 15; refine (exactly_any _ _ n 16 16 rfl w1 H1.out.die (by decide)).mono ?_; rintro e w2 ⟨v1, l1, rfl, hs, hl, hd⟩; have H2 := Lib.hid ((H1.out.dice hd).add H1.out.lt hs); clear hs hl hd)
      | (go_at_call 7; refine (ask_any _ _ _ _ l1 l2 l3 l4 w6 (HK.out.2.below H6.out.bel HK.out.2.lt) (H6.out.at 4 rfl).loB (H6.out.at 3 rfl).loB (H6.out.at 2 rfl).loB (H6.out.at 1 rfl).loB).mono ?_; rintro e w7 ⟨v7, rfl, hs, hb⟩; have H7 := Lib.hid ((H6.out.on hb).add H6.out.lt hs); clear hs hb)
      | (go_at_call 8; refine (rask_any _ _ _ _ l1 l2 l3 l4 w7 (HK.out.1.below H7.out.bel HK.out.1.lt) (H7.out.at 5 rfl).loB (H7.out.at 4 rfl).loB (H7.out.at 3 rfl).loB (H7.out.at 2 rfl).loB).mono ?_; rintro e w8 ⟨v8, rfl, hs, hb⟩; have H8 := Lib.hid ((H7.out.on hb).add H7.out.lt hs); clear hs hb)
      | (go_at_call 10; refine (awakeB_any w8 (HK.out.2.below H8.out.bel HK.out.2.lt)).mono ?_; rintro e w9 ⟨rfl, hb⟩; have H9 := Lib.hid (H8.out.on hb); clear hb)
      | (go_at_call 11; refine (same_any _ _ (askL l1 l2 l3 l4) (askL l1 l2 l3 l4) _ _ w9 (H9.out.at 1 rfl) (H9.out.at 0 rfl)).mono ?_; rintro e w10 ⟨rfl, nd, hw⟩; rw [decide_eq_true (rfl : askL l1 l2 l3 l4 = askL l1 l2 l3 l4)]; have H10 := Lib.hid (H9.out.on (wy := w10) (by rw [hw]; exact below_drewN (Below.refl _ _) nd)); clear hw)
      | (go_at_call 16; refine (next_any _ _ n 6 w10 H10.out.die (by decide) (by decide)).mono ?_; rintro e w11 ⟨z, rfl, hz, hd⟩; have H11 := Lib.hid (H10.out.dice hd); clear hd))
    go_cut [6, 7, 10, 13] from 72 to 92 (fun y6 y7 y10 y13 wx => ∃ vs vc vb vm k1 k2 k5 lm, vs = y6 ∧ vc = y7 ∧ vb = y10 ∧ vm = y13 ∧ BA w n wx [(vs, k1), (vc, k2), (vb, k5), (vm, lm), (v3, l3), (v4, l4), (r, lr)])
    case first =>
      obtain hq0 | hq0 | hq0 | hq0 | hq0 | hq0 : z = 0 ∨ z = 1 ∨ z = 2 ∨ z = 3 ∨ z = 4 ∨ z = 5 := by omega
      all_goals (subst hq0; clear hz)
      · go_wp2_with (go_at_call 17; refine (spoil_any _ _ n (askL l1 l2 l3 l4) _ w11 (H11.out.at 0 rfl) (by have := askL_le l1 l2 l3 l4; omega) H11.out.die).mono ?_; rintro e w12 ⟨vz, lz, rfl, hs, hl, hd⟩; have H12 := Lib.hid ((H11.out.dice hd).add H11.out.lt hs); clear hs hl hd)
        go_meet
        exact ⟨_, _, _, _, l1, l2, l5, lz, rfl, rfl, rfl, rfl, H12.out.but _ (by simp)⟩
      · go_wp2_with (go_at_call 15; refine (exactly_any _ _ n 16 16 rfl w11 H11.out.die (by decide)).mono ?_; rintro e w12 ⟨vz, lz, rfl, hs, hl, hd⟩; have H12 := Lib.hid ((H11.out.dice hd).add H11.out.lt hs); clear hs hl hd)
        go_meet
        exact ⟨_, _, _, _, lz, l2, l5, (askL l1 l2 l3 l4), rfl, rfl, rfl, rfl, H12.out.but _ (by simp)⟩
      · go_wp2_with (go_at_call 15; refine (exactly_any _ _ n 8 8 rfl w11 H11.out.die (by decide)).mono ?_; rintro e w12 ⟨vz, lz, rfl, hs, hl, hd⟩; have H12 := Lib.hid ((H11.out.dice hd).add H11.out.lt hs); clear hs hl hd)
        go_meet
        exact ⟨_, _, _, _, l1, lz, l5, (askL l1 l2 l3 l4), rfl, rfl, rfl, rfl, H12.out.but _ (by simp)⟩
      · go_wp2_with fail
        go_meet
        exact ⟨_, _, _, _, l1, l2, l5, lr, rfl, rfl, rfl, rfl, H11.out.but _ (by simp)⟩
      · go_wp2_with (go_at_call 18; refine (dbytes_any _ _ n 17 w11 H11.out.die (by decide) (by decide)).mono ?_; rintro e w12 ⟨vz, lz, rfl, hs, hl, hd⟩; have H12 := Lib.hid ((H11.out.dice hd).add H11.out.lt hs); clear hs hl hd)
        go_meet
        exact ⟨_, _, _, _, l1, l2, lz, (askL l1 l2 l3 l4), rfl, rfl, rfl, rfl, H12.out.but _ (by simp)⟩
      · go_wp2_with fail
        go_meet
        exact ⟨_, _, _, _, l1, l2, l5, (askL l1 l2 l3 l4), rfl, rfl, rfl, rfl, H11.out.but _ (by simp)⟩
    case rest =>
    obtain ⟨vs, vc, vb, vm, k1, k2, k5, lm, rfl, rfl, rfl, rfl, hH⟩ := hcut
    obtain ⟨w12, rfl⟩ : ∃ w12 : World, w12 = wc := ⟨_, rfl⟩
    have H12 := Lib.hid hH
    obtain ⟨⟨E, R, q1, q2, num⟩, hans⟩ : ∃ x, ansW k1 k2 k5 lm = x := ⟨_, rfl⟩
    have HRL : Hid (R.length ≤ 40) := Lib.hid (by have h := ansW_le k1 k2 k5 lm; rw [hans] at h; exact h)
    have HAN := Lib.hid hans
    clear hH hans hz H1 H2 H3 H4 H5 H6 H7 H8 H9 H10 H11
    go_upto_region 22 with (first
      | (go_at_call 20; refine (ranswer_any _ _ _ _ k1 k2 k5 lm _ (HK.out.1.below (H13.out.on (below_fillS w13 (.slice ya1 yn1 yc1) (.slice ya2 yn2 yc2) (.int .i64 num))).bel HK.out.1.lt) (BsS.loB ((H13.out.on (below_fillS w13 (.slice ya1 yn1 yc1) (.slice ya2 yn2 yc2) (.int .i64 num))).at 3 rfl)) (BsS.loB ((H13.out.on (below_fillS w13 (.slice ya1 yn1 yc1) (.slice ya2 yn2 yc2) (.int .i64 num))).at 4 rfl)) (BsS.loB ((H13.out.on (below_fillS w13 (.slice ya1 yn1 yc1) (.slice ya2 yn2 yc2) (.int .i64 num))).at 5 rfl)) (BsS.loB ((H13.out.on (below_fillS w13 (.slice ya1 yn1 yc1) (.slice ya2 yn2 yc2) (.int .i64 num))).at 6 rfl))).mono ?_; rw [HAN.out]; rintro e w14 ⟨v14, s14, rfl, ho, ⟨P1, P2, rfl, h1, h2⟩, hb⟩; obtain ⟨xa1, xn1, xc1, hp⟩ := h1.form; subst hp; obtain ⟨xa2, xn2, xc2, hp⟩ := h2.form; subst hp; have W14 : Hid (w14.heap[w13.heap.size]? = some (.cells #[(.slice ya1 yn1 yc1), (.slice ya2 yn2 yc2), .int .i64 num] 40 (0, 0))) := Lib.hid ((Below.block hb w13.heap.size (fill_lt w13 _ _ _)).trans (fill_row w13 _ _ _)); have HF := H13.out.on (below_fillS w13 (.slice ya1 yn1 yc1) (.slice ya2 yn2 yc2) (.int .i64 num)); have H14 := Lib.hid ((((HF.on hb).add HF.lt h2).add HF.lt h1).add HF.lt ho); clear HF n0 n1 n2 nf0 nf1 nf2; obtain ⟨n0, n1, n2, nf⟩ := sess3 (fresh_row w14); have nf0 := nf 0; have nf1 := nf 1; have nf2 := nf 2; clear nf; clear ho h1 h2 hb)
      | (go_at_call 19; refine (answer_any _ _ _ _ k1 k2 k5 lm w12 (HK.out.2.below H12.out.bel HK.out.2.lt) (H12.out.at 0 rfl).loB (H12.out.at 1 rfl).loB (H12.out.at 2 rfl).loB (H12.out.at 3 rfl).loB).mono ?_; rw [HAN.out]; rintro e w13 ⟨v13, s13, rfl, ho, ⟨P1, P2, rfl, h1, h2⟩, hb⟩; obtain ⟨ya1, yn1, yc1, hp⟩ := h1.form; subst hp; obtain ⟨ya2, yn2, yc2, hp⟩ := h2.form; subst hp; have H13 := Lib.hid ((((H12.out.on hb).add H12.out.lt h2).add H12.out.lt h1).add H12.out.lt ho); obtain ⟨n0, n1, n2, nf⟩ := sess3 (fresh_row w13); have nf0 := nf 0; have nf1 := nf 1; have nf2 := nf 2; clear nf; clear ho h1 h2 hb))
    have H15 := Lib.hid (H14.out.on (below_fillS w14 (.slice xa1 xn1 xc1) (.slice xa2 xn2 xc2) (.int .i64 num)))
    go_upto_block 1 with (first
      | (go_at_call 11; refine (same_any _ _ R R _ _ (fillS w14 (.slice xa1 xn1 xc1) (.slice xa2 xn2 xc2) (.int .i64 num)) (H15.out.at 3 rfl) (H15.out.at 0 rfl)).mono ?_; rintro e w16 ⟨rfl, nd, hw⟩; rw [decide_eq_true (rfl : R = R)]; have hb : Below (fillS w14 (.slice xa1 xn1 xc1) (.slice xa2 xn2 xc2) (.int .i64 num)).heap.size (fillS w14 (.slice xa1 xn1 xc1) (.slice xa2 xn2 xc2) (.int .i64 num)) w16 := (by rw [hw]; exact below_drewN (Below.refl _ _) nd); have H16 := Lib.hid (H15.out.on hb); clear n0 n1 n2 nf0 nf1 nf2; obtain ⟨z0, z1, z2, _⟩ := sess3 ((hb.block _ (Nat.lt_of_lt_of_le (Array.getElem?_eq_some_iff.1 W14.out).1 (below_fillS w14 (.slice xa1 xn1 xc1) (.slice xa2 xn2 xc2) (.int .i64 num)).size)).trans (((below_fillS w14 (.slice xa1 xn1 xc1) (.slice xa2 xn2 xc2) (.int .i64 num)).block _ (Array.getElem?_eq_some_iff.1 W14.out).1).trans W14.out)); obtain ⟨m0, m1, m2, _⟩ := sess3 ((hb.block w14.heap.size (fill_lt w14 _ _ _)).trans (fill_row w14 (.slice xa1 xn1 xc1) (.slice xa2 xn2 xc2) (.int .i64 num))); clear hb hw)
      | (go_at_call 21; refine (ssame_any _ _ q1 q2 q1 q2 num num _ _ w16 ⟨_, _, rfl, H16.out.at 4 rfl, H16.out.at 5 rfl⟩ ⟨_, _, rfl, H16.out.at 1 rfl, H16.out.at 2 rfl⟩).mono ?_; rintro e w17 ⟨rfl, hb⟩; rw [decide_eq_true (show num = num ∧ q1 = q1 ∧ q2 = q2 from ⟨rfl, rfl, rfl⟩)]; have H17 := Lib.hid (H16.out.on hb); clear z0 z1 z2 m0 m1 m2 hb)
      | (go_at_call 16; refine (next_any _ _ n 6 w17 H17.out.die (by decide) (by decide)).mono ?_; rintro e w18 ⟨z, rfl, hz, hd⟩; have H18 := Lib.hid (H17.out.dice hd); clear hd))
    go_cut [7, 8, 18] from 127 to 143 (fun y7 y8 y18 wx => ∃ xc xo xm j2 j3 lx, xc = y7 ∧ xo = y8 ∧ xm = y18 ∧ BA w n wx [(vs, k1), (xc, j2), (xo, j3), (v4, l4), (xm, lx)])
    case first =>
      obtain hq0 | hq0 | hq0 | hq0 | hq0 | hq0 : z = 0 ∨ z = 1 ∨ z = 2 ∨ z = 3 ∨ z = 4 ∨ z = 5 := by omega
      all_goals (subst hq0; clear hz)
      · go_wp2_with (go_at_call 17; refine (spoil_any _ _ n R _ w18 (H18.out.at 0 rfl) (by have := HRL.out; omega) H18.out.die).mono ?_; rintro e w19 ⟨vz, lz, rfl, hs, hl, hd⟩; have H19 := Lib.hid ((H18.out.dice hd).add H18.out.lt hs); clear hs hl hd)
        go_meet
        exact ⟨_, _, _, k2, l3, lz, rfl, rfl, rfl, H19.out.but _ (by simp)⟩
      · go_wp2_with (go_at_call 15; refine (exactly_any _ _ n 8 8 rfl w18 H18.out.die (by decide)).mono ?_; rintro e w19 ⟨vz, lz, rfl, hs, hl, hd⟩; have H19 := Lib.hid ((H18.out.dice hd).add H18.out.lt hs); clear hs hl hd)
        go_meet
        exact ⟨_, _, _, k2, lz, R, rfl, rfl, rfl, H19.out.but _ (by simp)⟩
      · go_wp2_with (go_at_call 15; refine (exactly_any _ _ n 8 8 rfl w18 H18.out.die (by decide)).mono ?_; rintro e w19 ⟨vz, lz, rfl, hs, hl, hd⟩; have H19 := Lib.hid ((H18.out.dice hd).add H18.out.lt hs); clear hs hl hd)
        go_meet
        exact ⟨_, _, _, lz, l3, R, rfl, rfl, rfl, H19.out.but _ (by simp)⟩
      · go_wp2_with fail
        go_meet
        exact ⟨_, _, _, k2, l3, lr, rfl, rfl, rfl, H18.out.but _ (by simp)⟩
      · go_wp2_with fail
        go_meet
        exact ⟨_, _, _, k2, l3, R, rfl, rfl, rfl, H18.out.but _ (by simp)⟩
      · go_wp2_with fail
        go_meet
        exact ⟨_, _, _, k2, l3, R, rfl, rfl, rfl, H18.out.but _ (by simp)⟩
    case rest =>
    obtain ⟨xc, xo, xm, j2, j3, lx, rfl, rfl, rfl, hH⟩ := hcut
    obtain ⟨w19, rfl⟩ : ∃ w19 : World, w19 = wc := ⟨_, rfl⟩
    have H19 := Lib.hid hH
    clear HAN
    obtain ⟨⟨E, q1, q2, num⟩, hfin⟩ : ∃ x, fnsW k1 j2 j3 l4 lx = x := ⟨_, rfl⟩
    have HFI := Lib.hid hfin
    clear hH hfin hz H12 H13 H14 H15 H16 H17 H18 W14
    go_wp2_with (first
      | (go_at_call 23; refine (rfinish_any _ _ _ _ _ k1 j2 j3 l4 lx _ (HK.out.1.below (H20.out.on (below_fillS w20 (.slice ya1 yn1 yc1) (.slice ya2 yn2 yc2) (.int .i64 num))).bel HK.out.1.lt) (BsS.loB ((H20.out.on (below_fillS w20 (.slice ya1 yn1 yc1) (.slice ya2 yn2 yc2) (.int .i64 num))).at 2 rfl)) (BsS.loB ((H20.out.on (below_fillS w20 (.slice ya1 yn1 yc1) (.slice ya2 yn2 yc2) (.int .i64 num))).at 3 rfl)) (BsS.loB ((H20.out.on (below_fillS w20 (.slice ya1 yn1 yc1) (.slice ya2 yn2 yc2) (.int .i64 num))).at 4 rfl)) (BsS.loB ((H20.out.on (below_fillS w20 (.slice ya1 yn1 yc1) (.slice ya2 yn2 yc2) (.int .i64 num))).at 5 rfl)) (BsS.loB ((H20.out.on (below_fillS w20 (.slice ya1 yn1 yc1) (.slice ya2 yn2 yc2) (.int .i64 num))).at 6 rfl))).mono ?_; rw [HFI.out]; rintro e w21 ⟨s21, rfl, ⟨P1, P2, rfl, h1, h2⟩, hb⟩; obtain ⟨xa1, xn1, xc1, hp⟩ := h1.form; subst hp; obtain ⟨xa2, xn2, xc2, hp⟩ := h2.form; subst hp; have W21 : Hid (w21.heap[w20.heap.size]? = some (.cells #[(.slice ya1 yn1 yc1), (.slice ya2 yn2 yc2), .int .i64 num] 40 (0, 0))) := Lib.hid ((Below.block hb w20.heap.size (fill_lt w20 _ _ _)).trans (fill_row w20 _ _ _)); have HF := (H20.out.on (below_fillS w20 (.slice ya1 yn1 yc1) (.slice ya2 yn2 yc2) (.int .i64 num))); have H21 := Lib.hid (((HF.on hb).add HF.lt h2).add HF.lt h1); clear HF n0 n1 n2 nf0 nf1 nf2; obtain ⟨z0, z1, z2, _⟩ := sess3 (((below_fillS w21 (.slice xa1 xn1 xc1) (.slice xa2 xn2 xc2) (.int .i64 num)).block _ (Array.getElem?_eq_some_iff.1 W21.out).1).trans W21.out); obtain ⟨m0, m1, m2, _⟩ := sess3 (fill_row w21 (.slice xa1 xn1 xc1) (.slice xa2 xn2 xc2) (.int .i64 num)); obtain ⟨n0, n1, n2, nf⟩ := sess3 (fresh_row w21); have nf0 := nf 0; have nf1 := nf 1; have nf2 := nf 2; clear nf; clear h1 h2 hb)
      | (go_at_call 22; refine (finish_any _ _ _ _ _ k1 j2 j3 l4 lx w19 (HK.out.2.below H19.out.bel HK.out.2.lt) (H19.out.at 0 rfl).loB (H19.out.at 1 rfl).loB (H19.out.at 2 rfl).loB (H19.out.at 3 rfl).loB (H19.out.at 4 rfl).loB).mono ?_; rw [HFI.out]; rintro e w20 ⟨s20, rfl, ⟨P1, P2, rfl, h1, h2⟩, hb⟩; obtain ⟨ya1, yn1, yc1, hp⟩ := h1.form; subst hp; obtain ⟨ya2, yn2, yc2, hp⟩ := h2.form; subst hp; have H20 := Lib.hid (((H19.out.on hb).add H19.out.lt h2).add H19.out.lt h1); obtain ⟨n0, n1, n2, nf⟩ := sess3 (fresh_row w20); have nf0 := nf 0; have nf1 := nf 1; have nf2 := nf 2; clear nf; clear h1 h2 hb)
      | (go_at_call 21; refine (ssame_any _ _ q1 q2 q1 q2 num num _ _ _ ⟨_, _, rfl, (H21.out.on (below_fillS w21 (.slice xa1 xn1 xc1) (.slice xa2 xn2 xc2) (.int .i64 num))).at 2 rfl, (H21.out.on (below_fillS w21 (.slice xa1 xn1 xc1) (.slice xa2 xn2 xc2) (.int .i64 num))).at 3 rfl⟩ ⟨_, _, rfl, (H21.out.on (below_fillS w21 (.slice xa1 xn1 xc1) (.slice xa2 xn2 xc2) (.int .i64 num))).at 0 rfl, (H21.out.on (below_fillS w21 (.slice xa1 xn1 xc1) (.slice xa2 xn2 xc2) (.int .i64 num))).at 1 rfl⟩).mono ?_; rintro e w22 ⟨rfl, hb⟩; rw [decide_eq_true (show num = num ∧ q1 = q1 ∧ q2 = q2 from ⟨rfl, rfl, rfl⟩)]; have H22 := Lib.hid ((H21.out.on (below_fillS w21 (.slice xa1 xn1 xc1) (.slice xa2 xn2 xc2) (.int .i64 num))).on hb); clear hb))
    go_ret
    exact ⟨rfl, H22.out.bel⟩
  · have hn1 : decide ((n : Int) ≤ 400) = false := decide_eq_false hn
    rw [hn1] at HL
    clear hn hn1
    go_enter Tryd.func4, Tryd.ntmps4
    go_wp2_with (first
      | (go_at_call 13; refine HL.out.mono ?_; rintro e w' ⟨rfl, hw'⟩; rw [hw']; clear hw' w')
      | (go_at_call 10; refine (awakeB_any _ HK.out.2).mono ?_; rintro e w1 ⟨rfl, hb⟩; have HB := Lib.hid hb; clear hb))
    go_ret
    exact ⟨rfl, HB.out⟩
end Go.Proofs.YtjbmmdcnccclaaaDoor
