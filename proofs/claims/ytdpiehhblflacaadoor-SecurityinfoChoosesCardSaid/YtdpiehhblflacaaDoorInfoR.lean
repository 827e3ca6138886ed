/- Layer 14: the reference's info of an object. -/
import Derived.Test.YtdpiehhblflacaaDoorInfo
import Derived.Test.YtdpiehhblflacaaDoorPrimR
import Derived.Test.YtdpiehhblflacaaDoorQSame
import Derived.Test.YtdpiehhblflacaaDoorCodes
namespace Go.Proofs.YtdpiehhblflacaaDoor
open Go.RowKit Go.Deep

/-- What the reference's info answers. -/
def RInfoEnd (r : Inf × Bool) (w : World) (e : Ending) (w' : World) : Prop := ∃ x : Inf, e = .returned (.tuple #[.agg x.cells, .bool r.2]) ∧ (r.2 = true → x = r.1) ∧ Below w.heap.size w w'
/-- Objects of the tags 6, 2 and 4 have nothing inside. -/
def Ns.prims : Ns → Prop
  | .nil => True
  | .cons t _ k r => (t = 6 ∨ t = 2 ∨ t = 4 → k.len = 0) ∧ r.prims
theorem prims_chk : ∀ (K : Ns) (d : Nat), K.chk d = 0 → K.prims := by
  intro K
  induction K with
  | nil => intros; trivial
  | cons t v k r _ ih =>
    intro d h
    obtain ⟨_, h2, _, _, _, h6⟩ := chk_cons h
    refine ⟨fun ht => ?_, ih d h6⟩
    have : tagC t = false := by rcases ht with rfl | rfl | rfl <;> rfl
    rw [h2 this]
    rfl
theorem protP_long {v : List UInt8} (h : ¬ v.length = 9) : protP v = 0 := by
  have n : ∀ p, ¬ v = identB p := fun p e => h (by rw [e]; exact identB_len p)
  unfold protP
  rw [if_neg (n 2), if_neg (n 3), if_neg (n 4), if_neg (n 5), if_neg (n 6)]
theorem fieldsP_first {p t1 : Int} {v1 : List UInt8} {k1 r : Ns} (h : ¬ (t1 = 2 ∧ v1.length = 1)) : fieldsP p (.cons t1 v1 k1 r) = none := by
  rcases Decidable.em (p = 0) with h0 | h0
  · simp [fieldsP, h0]
  · rw [fieldsP_fill p h0]
    simp only [formP, fillP]
    rw [if_neg h]
    rfl
/-- The cells of a node that lies where it lay. -/
theorem ncells_at {w0 : World} {S : Nat → Prop} {t : Int} {v : List UInt8} {k r : Ns} {kb ko : Nat} (hkb : kb < w0.heap.size) (h : ∀ W, Below w0.heap.size w0 W → NsAt W S (.cons t v k r) kb ko) :
    ∃ a0 c0 a0' c0', Hid (∀ W, Below w0.heap.size w0 W → W.cell? ⟨kb, ko, none⟩ = some (.int .i64 t) ∧ W.cell? ⟨kb, ko + 1, none⟩ = some (.slice a0 v.length c0) ∧ W.cell? ⟨kb, ko + 2, none⟩ = some (.slice a0' k.len c0') ∧ BsS W S (.slice a0 v.length c0) v) := by
  obtain ⟨g0, _, ⟨x0, g1, hx0⟩, ⟨a', c', g2, _⟩, _⟩ := h w0 (Below.refl _ _)
  obtain ⟨a0, c0, rfl⟩ := hx0.form2
  refine ⟨a0, c0, a', c', Lib.hid fun W hW => ?_⟩
  have e : ∀ o, W.cell? ⟨kb, o, none⟩ = w0.cell? ⟨kb, o, none⟩ := fun o => hW.cell (p := ⟨kb, o, none⟩) hkb
  obtain ⟨_, _, ⟨y0, k1, hy0⟩, _, _⟩ := h W hW
  rw [e, g1] at k1
  injection k1 with k1
  subst k1
  exact ⟨(e _).trans g0, (e _).trans g1, (e _).trans g2, hy0⟩
theorem byte_cell {W : World} {S : Nat → Prop} {a : Option Addr} {c : Nat} {b : UInt8} (h : BsS W S (.slice a 1 c) [b]) : ∃ g o, a = some ⟨g, o, none⟩ ∧ W.cell? ⟨g, o, none⟩ = some (U8 b) := by
  obtain ⟨a', c', e, _, _, _, h4⟩ := h
  injection e with e1 e2 e3
  subst e1
  obtain ⟨g, o, ea, _, hc⟩ := h4 (by simp)
  exact ⟨g, o, ea, hc 0 (by simp)⟩
theorem cell_set5 {w : World} {g b o : Nat} {x : Inf} {u : Value} (h : w.cell? ⟨b, o, none⟩ = some u) (hne : b ≠ g) : (set5 w g x).cell? ⟨b, o, none⟩ = some u := by
  have e : (set5 w g x).heap[b]? = w.heap[b]? := by
    unfold set5
    rw [Below.heap_setCell _ _ _ _ hne, Below.heap_setCell _ _ _ _ hne, Below.heap_setCell _ _ _ _ hne, Below.heap_setCell _ _ _ _ hne, Below.heap_setCell _ _ _ _ hne]
  rw [← h]
  simp [World.cell?, e]
theorem set5_drew (w : World) (g : Nat) (x : Inf) : set5 w.drew g x = (set5 w g x).drew := by simp only [set5, World.setCell_drew]
theorem numV_one (b : UInt8) : numV [b] = bv b := by show 256 * 0 + bv b = bv b; omega
set_option maxRecDepth 100000 in
set_option maxHeartbeats 4000000 in
theorem rinfo_any (t : Int) (xv kv : Value) (xb : List UInt8) (kids : Ns) (S : Nat → Prop) (w : World) (hx : BsS w S xv xb) (hk : NsS w (· < w.heap.size) kv kids) (h48 : t = 48 → xb.length = 0) (hpr : kids.prims) :
    Calls Tryd.prog 36 #[.agg #[.int .i64 t, xv, kv]] w (RInfoEnd (infoA t kids) w) := by
  obtain ⟨xa, xc, rfl⟩ := hx.form2
  obtain ⟨xn, hxn⟩ : ∃ xn, xb.length = xn := ⟨_, rfl⟩
  rw [hxn] at h48 ⊢
  clear hx hxn
  obtain ⟨ka, kc, rfl⟩ := hk.form3
  obtain ⟨n, hn⟩ : ∃ n, kids.len = n := ⟨_, rfl⟩
  rw [hn] at hk ⊢
  obtain ⟨w0, hw0⟩ : ∃ w0, w0 = (w.alloc (.cells #[.int .i64 t, .slice xa xn xc, .slice ka n kc] 53)).alloc (.cells #[.int .i64 0, .int .i64 0, .int .i64 0, .int .i64 0, .int .i64 0] 45) := ⟨_, rfl⟩
  have hz0 : w0.heap.size = w.heap.size + 2 := by rw [hw0]; simp
  have hbx : w0.heap[w.heap.size]? = some (.cells #[.int .i64 t, .slice xa xn xc, .slice ka n kc] 53 (0, 0)) := by rw [hw0]; exact (Below.heap_alloc _ _ _ (by simp)).trans (heap_alloc_new _ _)
  have hres : w0.heap[w.heap.size + 1]? = some (.cells #[.int .i64 0, .int .i64 0, .int .i64 0, .int .i64 0, .int .i64 0] 45) := by rw [hw0]; have := heap_alloc_new (w.alloc (.cells #[.int .i64 t, .slice xa xn xc, .slice ka n kc] 53)) (.cells #[.int .i64 0, .int .i64 0, .int .i64 0, .int .i64 0, .int .i64 0] 45); simpa using this
  have hB0 : Below w.heap.size w w0 := by rw [hw0]; exact ((Below.refl _ _).alloc (Nat.le_refl _) _).alloc (by simp) _
  have HW0 := Lib.hid hw0; have HZ := Lib.hid hz0; have HBX := Lib.hid hbx; have HRES := Lib.hid hres; have HB0 := Lib.hid hB0; have HK := Lib.hid hk
  have hkl : n ≤ 2513169434843 := by obtain ⟨_, _, _, _, _, h, _⟩ := hk; omega
  have HN := Lib.hid hn
  clear hz0 hbx hres hB0 hk hn
  have NO := Lib.hid (fun (w1 : World) (hb : Below w0.heap.size w0 w1) (hn : infoP t kids = none) => (show RInfoEnd (infoA t kids) w (.returned (.tuple #[.agg #[.int .i64 0, .int .i64 0, .int .i64 0, .int .i64 0, .int .i64 0], .bool false])) (set5 w1 (w.heap.size + 1) infZ) from by
    rw [infoA_none hn]
    exact ⟨infZ, rfl, fun h => (by cases h), set5_below (HB0.out.trans (hb.mono (by have := HZ.out; omega))) (by omega)⟩))
  have RN := Lib.hid (fun (w1 : World) (x : Inf) (hb : Below w0.heap.size w0 w1) => five_set (set5_row x ((hb.block (w.heap.size + 1) (by have := HZ.out; omega)).trans HRES.out)))
  have hC0 : Below w0.heap.size w0 w0 := Below.refl _ _
  have HBW := Lib.hid (fun (W : World) (h : Below w0.heap.size w0 W) => node_three ((h.block w.heap.size (by have := HZ.out; omega)).trans HBX.out))
  obtain ⟨o48, ho48⟩ : ∃ o, decide (t = 48 ∧ xn = 0) = o := ⟨_, rfl⟩
  have HC48 := Lib.hid (fun w => rcs_any t 48 xa ka xn xc n kc w o48 ho48)
  cases o48 with
  | false =>
    have hn : infoP t kids = none := infoP_tag (fun h => by have := of_decide_eq_false ho48; exact this ⟨h, h48 h⟩)
    obtain ⟨c0, c1, c2, _⟩ := node_three HBX.out
    clear ho48 hpr h48 hw0
    go_enter Tryd.func36, Tryd.ntmps36
    go_upto_region 1 with fail
    rw [← HW0.out]
    go_wp2_with (go_at_call 35; refine (HC48.out _).mono ?_; rintro e w1 ⟨rfl, h1⟩; obtain ⟨r0, r1, r2, r3, r4, rf⟩ := five_set ((h1.block (w.heap.size + 1) (by have := HZ.out; omega)).trans HRES.out); have rf0 := rf 0; have rf1 := rf 1; have rf2 := rf 2; have rf3 := rf 3; have rf4 := rf 4; clear rf; have H1 := Lib.hid h1; clear h1)
    obtain ⟨y0, y1, y2, y3, y4, _⟩ := RN.out w1 infZ H1.out
    exact bodyPost_ret (v := .tuple #[.agg #[.int .i64 0, .int .i64 0, .int .i64 0, .int .i64 0, .int .i64 0], .bool false]) (by simp only [set5, infZ] at y0 y1 y2 y3 y4; simp [results, Tryd.results36, go_sem, y0, y1, y2, y3, y4]) rfl (NO.out _ H1.out hn)
  | true =>
    obtain ⟨rfl, rfl⟩ := of_decide_eq_true ho48
    clear ho48 h48
    by_cases h2 : n < 2
    · have hd : decide ((n : Int) < 2) = true := decide_eq_true (by omega)
      have hn : infoP 48 kids = none := infoP_short (by rw [HN.out]; exact h2)
      obtain ⟨c0, c1, c2, _⟩ := node_three HBX.out
      clear hpr hw0 h2
      go_enter Tryd.func36, Tryd.ntmps36
      go_upto_region 1 with fail
      rw [← HW0.out]
      go_wp2_with (go_at_call 35; refine (HC48.out _).mono ?_; rintro e w1 ⟨rfl, h1⟩; obtain ⟨r0, r1, r2, r3, r4, rf⟩ := five_set ((h1.block (w.heap.size + 1) (by have := HZ.out; omega)).trans HRES.out); have rf0 := rf 0; have rf1 := rf 1; have rf2 := rf 2; have rf3 := rf 3; have rf4 := rf 4; clear rf; obtain ⟨_, _, c2', _⟩ := HBW.out w1 h1; have H1 := Lib.hid h1; clear h1)
      obtain ⟨y0, y1, y2, y3, y4, _⟩ := RN.out w1 infZ H1.out
      exact bodyPost_ret (v := .tuple #[.agg #[.int .i64 0, .int .i64 0, .int .i64 0, .int .i64 0, .int .i64 0], .bool false]) (by simp only [set5, infZ] at y0 y1 y2 y3 y4; simp [results, Tryd.results36, go_sem, y0, y1, y2, y3, y4]) rfl (NO.out _ H1.out hn)
    · have hd : decide ((n : Int) < 2) = false := decide_eq_false (by omega)
      have hn2 : 2 ≤ n := by omega
      cases kids with
      | nil => exact absurd (by rw [← HN.out]; simp [Ns.len]) h2
      | cons t0 v0 k0 r' =>
      cases r' with
      | nil => exact absurd (by rw [← HN.out]; simp [Ns.len]) h2
      | cons t1 v1 k1 r =>
      clear h2
      obtain ⟨ka', kc', ek, hk1, hk2, _, hk4⟩ := HK.out
      obtain ⟨kb, ko, rfl, hkb, _, hat⟩ := hk4 (by simp [Ns.len])
      injection ek with ek1 ek2 ek3
      subst ek1 ek3
      have hkn : n ≤ kc := by omega
      clear ek2 hk4 hk1
      have hkc : kc ≤ 9223372036854775807 := by unfold maxLen at hk2; exact hk2
      clear hk2
      have hkb0 : kb < w0.heap.size := by have := HZ.out; omega
      have HAT : Hid (∀ W, Below w0.heap.size w0 W → NsAt W (· < w.heap.size) (.cons t0 v0 k0 (.cons t1 v1 k1 r)) kb ko) := Lib.hid (fun W h => NsAt.keep (fun b hs _ => ⟨(h.block b (by have := HZ.out; omega)).trans (HB0.out.block b hs), hs⟩) _ _ _ hkb hkb hat)
      clear hat
      obtain ⟨a0, c0, a0', c0', HX0⟩ : ∃ a0 c0 a0' c0', Hid (∀ W, Below w0.heap.size w0 W → W.cell? ⟨kb, ko, none⟩ = some (.int .i64 t0) ∧ W.cell? ⟨kb, ko + 1, none⟩ = some (.slice a0 v0.length c0) ∧ W.cell? ⟨kb, ko + 2, none⟩ = some (.slice a0' k0.len c0') ∧ BsS W (· < w.heap.size) (.slice a0 v0.length c0) v0) := ncells_at hkb0 (fun W h => HAT.out W h)
      obtain ⟨a1, c1, a1', c1', HX1⟩ : ∃ a0 c0 a0' c0', Hid (∀ W, Below w0.heap.size w0 W → W.cell? ⟨kb, ko + 3, none⟩ = some (.int .i64 t1) ∧ W.cell? ⟨kb, ko + 3 + 1, none⟩ = some (.slice a0 v1.length c0) ∧ W.cell? ⟨kb, ko + 3 + 2, none⟩ = some (.slice a0' k1.len c0') ∧ BsS W (· < w.heap.size) (.slice a0 v1.length c0) v1) := ncells_at hkb0 (fun W h => (HAT.out W h).2.2.2.2)
      obtain ⟨hp0, hp1, hpr⟩ := hpr
      obtain ⟨o0, ho0⟩ : ∃ o, decide (t0 = 6 ∧ k0.len = 0 ∧ (v0.length : Int) = 9) = o := ⟨_, rfl⟩
      obtain ⟨o1, ho1⟩ : ∃ o, decide (t1 = 2 ∧ k1.len = 0 ∧ (v1.length : Int) = 1) = o := ⟨_, rfl⟩
      have HP0 := Lib.hid (fun w => rprim_any t0 6 9 a0 a0' v0.length c0 k0.len c0' w o0 (by omega) ho0)
      have HP1 := Lib.hid (fun w => rprim_any t1 2 1 a1 a1' v1.length c1 k1.len c1' w o1 (by omega) ho1)
      obtain ⟨q, hq⟩ : ∃ q, q = protP v0 := ⟨_, rfl⟩
      have hn0 : 0 < n := by omega
      have hn1 : 1 < n := by omega
      obtain ⟨c0', c1', c2', _⟩ := node_three HBX.out
      have ARM1 := HC48
      cases o0 with
      | false =>
        have hn : infoP 48 (.cons t0 v0 k0 (.cons t1 v1 k1 r)) = none := by
          unfold infoP
          rw [if_neg (by simp)]
          simp only []
          split
          · rename_i h
            rw [protP_long (fun h9 => by have := of_decide_eq_false ho0; exact this ⟨h, hp0 (.inl h), by omega⟩)]
            rfl
          · rfl
        clear ho0 ho1 HP1 hp0 hp1 hpr hq hw0
        go_enter Tryd.func36, Tryd.ntmps36
        go_upto_region 1 with fail
        rw [← HW0.out]
        go_wp2_with (first
          | (go_at_call 35; refine (HC48.out _).mono ?_; rintro e w1 ⟨rfl, h1⟩; have h1' : Below w0.heap.size w0 w1 := h1; obtain ⟨_, _, d2, _⟩ := HBW.out w1 h1'; obtain ⟨k0c, k1c, k2c, _⟩ := HX0.out w1 h1'; have H1 := Lib.hid h1'; clear h1 h1')
          | (go_at_call 59; refine (HP0.out _).mono ?_; rintro e w2 ⟨rfl, h2⟩; have h2' : Below w0.heap.size w0 w2 := H1.out.trans (h2.mono H1.out.size); obtain ⟨r0, r1, r2, r3, r4, rf⟩ := five_set ((h2'.block (w.heap.size + 1) (by have := HZ.out; omega)).trans HRES.out); have rf0 := rf 0; have rf1 := rf 1; have rf2 := rf 2; have rf3 := rf 3; have rf4 := rf 4; clear rf; have H2 := Lib.hid h2'; clear h2 h2'))
        obtain ⟨y0, y1, y2, y3, y4, _⟩ := RN.out w2 infZ H2.out
        exact bodyPost_ret (v := .tuple #[.agg #[.int .i64 0, .int .i64 0, .int .i64 0, .int .i64 0, .int .i64 0], .bool false]) (by simp only [set5, infZ] at y0 y1 y2 y3 y4; simp [results, Tryd.results36, go_sem, y0, y1, y2, y3, y4]) rfl (NO.out _ H2.out hn)
      | true =>
        obtain ⟨rfl, hk0, hv9⟩ := of_decide_eq_true ho0
        cases o1 with
        | false =>
          have hn : infoP 48 (.cons 6 v0 k0 (.cons t1 v1 k1 r)) = none := by
            unfold infoP
            rw [if_neg (by simp)]
            simp only [if_true]
            exact fieldsP_first (fun h => by have := of_decide_eq_false ho1; exact this ⟨h.1, hp1 (.inr (.inl h.1)), by omega⟩)
          clear ho0 ho1 hp0 hp1 hpr hq hw0 hk0 hv9
          go_enter Tryd.func36, Tryd.ntmps36
          go_upto_region 1 with fail
          rw [← HW0.out]
          go_wp2_with (first
            | (go_at_call 35; refine (HC48.out _).mono ?_; rintro e w1 ⟨rfl, h1⟩; have h1' : Below w0.heap.size w0 w1 := h1; obtain ⟨_, _, d2, _⟩ := HBW.out w1 h1'; obtain ⟨k0c, k1c, k2c, _⟩ := HX0.out w1 h1'; have H1 := Lib.hid h1'; clear h1 h1')
            | (go_at_call 59; have hh2 := H2.out; refine (HP1.out _).mono ?_; rintro e w3 ⟨rfl, h3⟩; have h3' : Below w0.heap.size w0 w3 := H2.out.trans (h3.mono H2.out.size); obtain ⟨r0, r1, r2, r3, r4, rf⟩ := five_set ((h3'.block (w.heap.size + 1) (by have := HZ.out; omega)).trans HRES.out); have rf0 := rf 0; have rf1 := rf 1; have rf2 := rf 2; have rf3 := rf 3; have rf4 := rf 4; clear rf; have H3 := Lib.hid h3'; clear h3 h3' hh2)
            | (go_at_call 59; refine (HP0.out _).mono ?_; rintro e w2 ⟨rfl, h2⟩; have h2' : Below w0.heap.size w0 w2 := H1.out.trans (h2.mono H1.out.size); obtain ⟨_, _, d2', _⟩ := HBW.out w2 h2'; obtain ⟨l0c, l1c, l2c, _⟩ := HX1.out w2 h2'; have H2 := Lib.hid h2'; clear h2 h2'))
          obtain ⟨y0, y1, y2, y3, y4, _⟩ := RN.out w3 infZ H3.out
          exact bodyPost_ret (v := .tuple #[.agg #[.int .i64 0, .int .i64 0, .int .i64 0, .int .i64 0, .int .i64 0], .bool false]) (by simp only [set5, infZ] at y0 y1 y2 y3 y4; simp [results, Tryd.results36, go_sem, y0, y1, y2, y3, y4]) rfl (NO.out _ H3.out hn)
        | true =>
          obtain ⟨rfl, hk1, hv1⟩ := of_decide_eq_true ho1
          obtain ⟨b1, rfl⟩ : ∃ b, v1 = [b] := List.length_eq_one_iff.1 (by omega)
          have HIP : Hid (infoP 48 (.cons 6 v0 k0 (.cons 2 [b1] k1 r)) = fieldsP q (.cons 2 [b1] k1 r)) := Lib.hid (by rw [hq]; unfold infoP; rw [if_neg (by simp)]; simp)
          have HPQ : Hid (protU v0 5 = q) := Lib.hid (by rw [hq]; exact protU_five v0)
          have HQR : Hid (q = 0 ∨ (2 ≤ q ∧ q ≤ 6)) := Lib.hid (by rw [hq]; unfold protP; (repeat' split) <;> omega)
          have HB1 := Lib.hid (fun (W : World) (h : Below w0.heap.size w0 W) => byte_cell (HX1.out W h).2.2.2)
          clear hq hp0 hp1 ho0 ho1 hk0 hk1 hv9 hv1 hw0
          go_enter Tryd.func36, Tryd.ntmps36
          go_upto_region 1 with fail
          rw [← HW0.out]
          go_upto_region 4 with (first
            | (go_at_call 35; refine (HC48.out _).mono ?_; rintro e w1 ⟨rfl, h1⟩; have h1' : Below w0.heap.size w0 w1 := h1; obtain ⟨_, _, d2, _⟩ := HBW.out w1 h1'; obtain ⟨k0c, k1c, k2c, _⟩ := HX0.out w1 h1'; have H1 := Lib.hid h1'; clear h1 h1')
            | (go_at_call 59; have hh2 := H2.out; refine (HP1.out _).mono ?_; rintro e w3 ⟨rfl, h3⟩; have h3' : Below w0.heap.size w0 w3 := H2.out.trans (h3.mono H2.out.size); obtain ⟨_, _, d2'', _⟩ := HBW.out w3 h3'; obtain ⟨m0c, m1c, m2c, _⟩ := HX1.out w3 h3'; obtain ⟨bb, bo, ea, bc⟩ := HB1.out w3 h3'; subst ea; have H3 := Lib.hid h3'; clear h3 h3' hh2)
            | (go_at_call 59; refine (HP0.out _).mono ?_; rintro e w2 ⟨rfl, h2⟩; have h2' : Below w0.heap.size w0 w2 := H1.out.trans (h2.mono H1.out.size); obtain ⟨_, _, d2', _⟩ := HBW.out w2 h2'; obtain ⟨l0c, l1c, l2c, _⟩ := HX1.out w2 h2'; have H2 := Lib.hid h2'; clear h2 h2'))
          have ho3 := heap_alloc_new w3 (.cells #[.int .i64 0, .int .i64 (bv b1), .int .i64 0, .int .i64 0, .int .i64 0] 45)
          have HO0 : Hid ((w3.alloc (.cells #[.int .i64 0, .int .i64 (bv b1), .int .i64 0, .int .i64 0, .int .i64 0] 45)).heap[w3.heap.size]? = some (.cells #[.int .i64 (protU v0 0), .int .i64 (bv b1), .int .i64 0, .int .i64 0, .int .i64 0] 45 (0, 0))) := Lib.hid ho3
          have HI := Lib.hid (fun (j : Nat) (hj : j < 5) (W : World) => rident_any (2 + j) W (by omega))
          clear ho3
          go_wp2_with fail
          clear c0' c1' c2' d2 d2' d2'' k0c k1c k2c l0c l1c l2c m0c m1c m2c bc
          go_loopg [5] 5 (fun m pv wr => ∃ j n : Nat, n = m ∧ j + n = 5 ∧ pv = .int .i64 (2 + j) ∧ wr.heap[w3.heap.size]? = some (.cells #[.int .i64 (protU v0 j), .int .i64 (bv b1), .int .i64 0, .int .i64 0, .int .i64 0] 45 (0, 0)) ∧ Below w3.heap.size w3 wr)
          case atStart => exact ⟨0, 5, rfl, rfl, rfl, HO0.out, (Below.refl _ _).alloc (Nat.le_refl _) _⟩
          case round =>
            obtain ⟨j, m, rfl, hj, rfl, hout, hbw⟩ := hrel
            have HOU := Lib.hid hout; have HBL := Lib.hid hbw
            have HB0W := Lib.hid (H3.out.trans (hbw.mono H3.out.size))
            clear hout hbw HO0
            rcases Nat.eq_zero_or_pos m with hm | hm
            · subst hm
              obtain rfl : j = 5 := by omega
              rw [show ((2 : Int) + ((5 : Nat) : Int)) = 7 from rfl]
              have hou := HOU.out
              rw [HPQ.out] at hou
              have HOQ := Lib.hid hou
              clear hou HOU
              have YES := Lib.hid (fun (W : World) (x : Inf) (hb : Below w0.heap.size w0 W) (hs : infoP 48 (.cons 6 v0 k0 (.cons 2 [b1] k1 r)) = some x) => (show RInfoEnd (infoA 48 (.cons 6 v0 k0 (.cons 2 [b1] k1 r))) w (.returned (.tuple #[.agg x.cells, .bool true])) (set5 W (w.heap.size + 1) x) from by
                rw [infoA_some hs]
                exact ⟨x, rfl, fun _ => rfl, set5_below (HB0.out.trans (hb.mono (by have := HZ.out; omega))) (by omega)⟩))
              have hob : w3.heap.size < wr.heap.size := (Array.getElem?_eq_some_iff.1 HOQ.out).1
              have hkn2 : n = r.len + 2 := by have := HN.out; simp only [Ns.len] at this; omega
              have HKN := Lib.hid hkn2
              clear hkn2
              have hobw : w0.heap.size ≤ w3.heap.size := H3.out.size
              have HOB := Lib.hid hob
              have LEN := Lib.hid (fun (hne : ¬ q = 0) (hl : ¬ (Ns.cons 2 [b1] k1 r).len = (formP q).length) => (show infoP 48 (.cons 6 v0 k0 (.cons 2 [b1] k1 r)) = none from by rw [HIP.out, fieldsP_fill q hne, fillP_len _ _ _ hl]; rfl))
              have HAR := Lib.hid (fun W (h : Below w0.heap.size w0 W) => (HAT.out W h).2.2.2.2.2.2.2.2)
              obtain ⟨p0, p1, p2, p3, p4, pf⟩ := five_set HOQ.out
              have pf2 := pf 2; have pf3 := pf 3; have pf4 := pf 4
              obtain ⟨_, _, d2, _⟩ := HBW.out wr HB0W.out
              clear pf hob
              rcases (show q = 0 ∨ (q = 2 ∨ q = 3) ∨ q = 4 ∨ (q = 5 ∨ q = 6) by have := HQR.out; omega) with h | h | h | h
              · subst h
                have hn : infoP 48 (.cons 6 v0 k0 (.cons 2 [b1] k1 r)) = none := by rw [HIP.out]; rfl
                obtain ⟨r0, r1, r2, r3, r4, rf⟩ := five_set ((HB0W.out.block (w.heap.size + 1) (by have := HZ.out; omega)).trans HRES.out); have rf0 := rf 0; have rf1 := rf 1; have rf2 := rf 2; have rf3 := rf 3; have rf4 := rf 4; clear rf
                go_wp2_with fail
                obtain ⟨y0, y1, y2, y3, y4, _⟩ := RN.out wr infZ HB0W.out; exact bodyPost_ret (v := .tuple #[.agg #[.int .i64 0, .int .i64 0, .int .i64 0, .int .i64 0, .int .i64 0], .bool false]) (by simp only [set5, infZ] at y0 y1 y2 y3 y4; simp [results, Tryd.results36, go_sem, y0, y1, y2, y3, y4]) rfl (NO.out _ HB0W.out hn)
              · by_cases hn3 : n = 3
                · obtain ⟨t2, v2, k2, rfl⟩ : ∃ t2 v2 k2, r = .cons t2 v2 k2 .nil := by
                    cases r with
                    | nil => have h9 := HKN.out; simp only [Ns.len] at h9; omega
                    | cons t2 v2 k2 r2 => cases r2 with
                      | nil => exact ⟨_, _, _, rfl⟩
                      | cons a b c d => have h9 := HKN.out; simp only [Ns.len] at h9; omega
                  subst hn3
                  obtain ⟨a2, c2, a2', c2', HX2⟩ : ∃ a0 c0 a0' c0', Hid (∀ W, Below w0.heap.size w0 W → W.cell? ⟨kb, ko + 3 + 3, none⟩ = some (.int .i64 t2) ∧ W.cell? ⟨kb, ko + 3 + 3 + 1, none⟩ = some (.slice a0 v2.length c0) ∧ W.cell? ⟨kb, ko + 3 + 3 + 2, none⟩ = some (.slice a0' k2.len c0') ∧ BsS W (· < w.heap.size) (.slice a0 v2.length c0) v2) := ncells_at hkb0 (fun W h => HAR.out W h)
                  obtain ⟨o2, ho2⟩ : ∃ o, decide (t2 = 2 ∧ k2.len = 0 ∧ (v2.length : Int) = 1) = o := ⟨_, rfl⟩
                  have HP2 := Lib.hid (fun w => rprim_any t2 2 1 a2 a2' v2.length c2 k2.len c2' w o2 (by omega) ho2)
                  obtain ⟨l0, l1, l2, _⟩ := HX2.out wr HB0W.out
                  have HQ := Lib.hid h
                  have HPR := Lib.hid hpr
                  clear hpr
                  cases o2 with
                  | false =>
                    have hn : infoP 48 (.cons 6 v0 k0 (.cons 2 [b1] k1 (.cons t2 v2 k2 .nil))) = none := by
                      rw [HIP.out, fieldsP_fill q (by have := HQ.out; omega)]
                      unfold formP
                      rw [if_pos HQ.out]
                      simp only [fillP]
                      rw [if_pos ⟨trivial, rfl⟩, if_neg]
                      · rfl
                      · intro hc; exact of_decide_eq_false ho2 ⟨hc.1, (HPR.out.1 (.inr (.inl hc.1))), by have := hc.2; omega⟩
                    clear ho2
                    rcases h with rfl | rfl
                    all_goals
                      go_wp2_with (go_at_call 59; refine (HP2.out _).mono ?_; rintro e w5 ⟨rfl, h5⟩; have h5' : Below w0.heap.size w0 w5 := HB0W.out.trans (h5.mono HB0W.out.size); obtain ⟨r0, r1, r2, r3, r4, rf⟩ := five_set ((h5'.block (w.heap.size + 1) (by have := HZ.out; omega)).trans HRES.out); have rf0 := rf 0; have rf1 := rf 1; have rf2 := rf 2; have rf3 := rf 3; have rf4 := rf 4; clear rf; have H5 := Lib.hid h5'; clear h5 h5')
                      obtain ⟨y0, y1, y2, y3, y4, _⟩ := RN.out w5 infZ H5.out; exact bodyPost_ret (v := .tuple #[.agg #[.int .i64 0, .int .i64 0, .int .i64 0, .int .i64 0, .int .i64 0], .bool false]) (by simp only [set5, infZ] at y0 y1 y2 y3 y4; simp [results, Tryd.results36, go_sem, y0, y1, y2, y3, y4]) rfl (NO.out _ H5.out hn)
                  | true =>
                    obtain ⟨rfl, hk2, hv2⟩ := of_decide_eq_true ho2
                    obtain ⟨b2, rfl⟩ : ∃ b, v2 = [b] := List.length_eq_one_iff.1 (by omega)
                    have HB2 := Lib.hid (fun (W : World) (h : Below w0.heap.size w0 W) => byte_cell (HX2.out W h).2.2.2)
                    have hs : infoP 48 (.cons 6 v0 k0 (.cons 2 [b1] k1 (.cons 2 [b2] k2 .nil))) = some ⟨q, bv b1, bv b2, 0, 0⟩ := by
                      rw [HIP.out]
                      simp only [fieldsP]
                      rw [if_neg (by have := HQ.out; omega), if_pos HQ.out, if_pos ⟨trivial, rfl, trivial, rfl⟩, numV_one, numV_one]
                    clear ho2 hk2 hv2
                    have YS := Lib.hid (fun W hb => YES.out W _ hb hs)
                    clear hs
                    rcases h with rfl | rfl
                    · go_wp2_with (go_at_call 59; refine (HP2.out _).mono ?_; rintro e w5 ⟨rfl, h5⟩; have h5' : Below w0.heap.size w0 w5 := HB0W.out.trans (h5.mono HB0W.out.size); obtain ⟨r0, r1, r2, r3, r4, rf⟩ := five_set ((h5'.block (w.heap.size + 1) (by have := HZ.out; omega)).trans HRES.out); have rf0 := rf 0; have rf1 := rf 1; have rf2 := rf 2; have rf3 := rf 3; have rf4 := rf 4; clear rf; obtain ⟨_, _, e2, _⟩ := HBW.out w5 h5'; obtain ⟨m0, m1, m2, _⟩ := HX2.out w5 h5'; obtain ⟨b5, o5, ea, bc5⟩ := HB2.out w5 h5'; subst ea; have ho5 := (h5.block w3.heap.size HOB.out).trans HOQ.out; obtain ⟨z0, z1, z2, z3, z4, zf⟩ := five_set ho5; have zf2 := zf 2; have HO5 := Lib.hid ho5; have hne5 : ¬ w3.heap.size = w.heap.size + 1 := (by have := HZ.out; omega); have hne6 : ¬ w.heap.size + 1 = w3.heap.size := (by omega); have H5 := Lib.hid h5'; clear h5 h5' ho5 zf)
                      have h6 : Below w0.heap.size w0 (w5.setCell ⟨w3.heap.size, 2, none⟩ (.int .i64 (bv b2))) := H5.out.setCell hobw _
                      obtain ⟨y0, y1, y2, y3, y4, _⟩ := RN.out _ ⟨2, bv b1, bv b2, 0, 0⟩ h6
                      exact bodyPost_ret (v := .tuple #[.agg #[.int .i64 2, .int .i64 (bv b1), .int .i64 (bv b2), .int .i64 0, .int .i64 0], .bool true]) (by simp only [set5] at y0 y1 y2 y3 y4; simp [results, Tryd.results36, go_sem, y0, y1, y2, y3, y4]) rfl (YS.out _ h6)
                    · go_wp2_with (go_at_call 59; refine (HP2.out _).mono ?_; rintro e w5 ⟨rfl, h5⟩; have h5' : Below w0.heap.size w0 w5 := HB0W.out.trans (h5.mono HB0W.out.size); obtain ⟨r0, r1, r2, r3, r4, rf⟩ := five_set ((h5'.block (w.heap.size + 1) (by have := HZ.out; omega)).trans HRES.out); have rf0 := rf 0; have rf1 := rf 1; have rf2 := rf 2; have rf3 := rf 3; have rf4 := rf 4; clear rf; obtain ⟨_, _, e2, _⟩ := HBW.out w5 h5'; obtain ⟨m0, m1, m2, _⟩ := HX2.out w5 h5'; obtain ⟨b5, o5, ea, bc5⟩ := HB2.out w5 h5'; subst ea; have ho5 := (h5.block w3.heap.size HOB.out).trans HOQ.out; obtain ⟨z0, z1, z2, z3, z4, zf⟩ := five_set ho5; have zf2 := zf 2; have HO5 := Lib.hid ho5; have hne5 : ¬ w3.heap.size = w.heap.size + 1 := (by have := HZ.out; omega); have hne6 : ¬ w.heap.size + 1 = w3.heap.size := (by omega); have H5 := Lib.hid h5'; clear h5 h5' ho5 zf)
                      have h6 : Below w0.heap.size w0 (w5.setCell ⟨w3.heap.size, 2, none⟩ (.int .i64 (bv b2))) := H5.out.setCell hobw _
                      obtain ⟨y0, y1, y2, y3, y4, _⟩ := RN.out _ ⟨3, bv b1, bv b2, 0, 0⟩ h6
                      exact bodyPost_ret (v := .tuple #[.agg #[.int .i64 3, .int .i64 (bv b1), .int .i64 (bv b2), .int .i64 0, .int .i64 0], .bool true]) (by simp only [set5] at y0 y1 y2 y3 y4; simp [results, Tryd.results36, go_sem, y0, y1, y2, y3, y4]) rfl (YS.out _ h6)
                · have hn3' : ((n : Int) != 3) = true := by rw [bne_iff_ne]; omega
                  have hn := LEN.out (by omega) (by unfold formP; rw [if_pos h]; have h9 := HKN.out; simp only [Ns.len, List.length_cons, List.length_nil]; omega)
                  obtain ⟨r0, r1, r2, r3, r4, rf⟩ := five_set ((HB0W.out.block (w.heap.size + 1) (by have := HZ.out; omega)).trans HRES.out); have rf0 := rf 0; have rf1 := rf 1; have rf2 := rf 2; have rf3 := rf 3; have rf4 := rf 4; clear rf
                  clear hn3
                  rcases h with rfl | rfl
                  all_goals
                    go_wp2_with fail
                    obtain ⟨y0, y1, y2, y3, y4, _⟩ := RN.out wr infZ HB0W.out; exact bodyPost_ret (v := .tuple #[.agg #[.int .i64 0, .int .i64 0, .int .i64 0, .int .i64 0, .int .i64 0], .bool false]) (by simp only [set5, infZ] at y0 y1 y2 y3 y4; simp [results, Tryd.results36, go_sem, y0, y1, y2, y3, y4]) rfl (NO.out _ HB0W.out hn)
              · subst h
                by_cases hn4 : n = 4
                · obtain ⟨t2, v2, k2, t3, v3, k3, rfl⟩ : ∃ t2 v2 k2 t3 v3 k3, r = .cons t2 v2 k2 (.cons t3 v3 k3 .nil) := by
                    cases r with
                    | nil => have h9 := HKN.out; simp only [Ns.len] at h9; omega
                    | cons t2 v2 k2 r2 => cases r2 with
                      | nil => have h9 := HKN.out; simp only [Ns.len] at h9; omega
                      | cons t3 v3 k3 r3 => cases r3 with
                        | nil => exact ⟨_, _, _, _, _, _, rfl⟩
                        | cons a b c d => have h9 := HKN.out; simp only [Ns.len] at h9; omega
                  subst hn4
                  obtain ⟨a2, c2, a2', c2', HX2⟩ : ∃ a0 c0 a0' c0', Hid (∀ W, Below w0.heap.size w0 W → W.cell? ⟨kb, ko + 3 + 3, none⟩ = some (.int .i64 t2) ∧ W.cell? ⟨kb, ko + 3 + 3 + 1, none⟩ = some (.slice a0 v2.length c0) ∧ W.cell? ⟨kb, ko + 3 + 3 + 2, none⟩ = some (.slice a0' k2.len c0') ∧ BsS W (· < w.heap.size) (.slice a0 v2.length c0) v2) := ncells_at hkb0 (fun W h => HAR.out W h)
                  obtain ⟨a3, c3, a3', c3', HX3⟩ : ∃ a0 c0 a0' c0', Hid (∀ W, Below w0.heap.size w0 W → W.cell? ⟨kb, ko + 3 + 3 + 3, none⟩ = some (.int .i64 t3) ∧ W.cell? ⟨kb, ko + 3 + 3 + 3 + 1, none⟩ = some (.slice a0 v3.length c0) ∧ W.cell? ⟨kb, ko + 3 + 3 + 3 + 2, none⟩ = some (.slice a0' k3.len c0') ∧ BsS W (· < w.heap.size) (.slice a0 v3.length c0) v3) := ncells_at hkb0 (fun W h => (HAR.out W h).2.2.2.2)
                  obtain ⟨o2, ho2⟩ : ∃ o, decide (t2 = 4 ∧ k2.len = 0 ∧ (v2.length : Int) = 4) = o := ⟨_, rfl⟩
                  obtain ⟨o3, ho3⟩ : ∃ o, decide (t3 = 2 ∧ k3.len = 0 ∧ (v3.length : Int) = 1) = o := ⟨_, rfl⟩
                  have HP2 := Lib.hid (fun w => rprim_any t2 4 4 a2 a2' v2.length c2 k2.len c2' w o2 (by omega) ho2)
                  have HP3 := Lib.hid (fun w => rprim_any t3 2 1 a3 a3' v3.length c3 k3.len c3' w o3 (by omega) ho3)
                  obtain ⟨l0, l1, l2, _⟩ := HX2.out wr HB0W.out
                  have HPR := Lib.hid hpr
                  clear hpr
                  cases o2 with
                  | false =>
                    have hn : infoP 48 (.cons 6 v0 k0 (.cons 2 [b1] k1 (.cons t2 v2 k2 (.cons t3 v3 k3 .nil)))) = none := by
                      rw [HIP.out, fieldsP_fill 4 (by omega)]
                      show Option.map infF (fillP [(2, 1, 1), (4, 4, 3), (2, 1, 4)] _ _) = none
                      simp only [fillP]
                      rw [if_pos ⟨trivial, rfl⟩, if_neg]
                      · rfl
                      · intro hc; exact of_decide_eq_false ho2 ⟨hc.1, HPR.out.1 (.inr (.inr hc.1)), by have := hc.2; omega⟩
                    clear ho2 ho3 HP3
                    go_wp2_with (go_at_call 59; refine (HP2.out _).mono ?_; rintro e w5 ⟨rfl, h5⟩; have h5' : Below w0.heap.size w0 w5 := HB0W.out.trans (h5.mono HB0W.out.size); obtain ⟨r0, r1, r2, r3, r4, rf⟩ := five_set ((h5'.block (w.heap.size + 1) (by have := HZ.out; omega)).trans HRES.out); have rf0 := rf 0; have rf1 := rf 1; have rf2 := rf 2; have rf3 := rf 3; have rf4 := rf 4; clear rf; have H5 := Lib.hid h5'; clear h5 h5')
                    obtain ⟨y0, y1, y2, y3, y4, _⟩ := RN.out w5 infZ H5.out; exact bodyPost_ret (v := .tuple #[.agg #[.int .i64 0, .int .i64 0, .int .i64 0, .int .i64 0, .int .i64 0], .bool false]) (by simp only [set5, infZ] at y0 y1 y2 y3 y4; simp [results, Tryd.results36, go_sem, y0, y1, y2, y3, y4]) rfl (NO.out _ H5.out hn)
                  | true =>
                    obtain ⟨rfl, hk2, hv2⟩ := of_decide_eq_true ho2
                    cases o3 with
                    | false =>
                      have hn : infoP 48 (.cons 6 v0 k0 (.cons 2 [b1] k1 (.cons 4 v2 k2 (.cons t3 v3 k3 .nil)))) = none := by
                        rw [HIP.out, fieldsP_fill 4 (by omega)]
                        show Option.map infF (fillP [(2, 1, 1), (4, 4, 3), (2, 1, 4)] _ _) = none
                        simp only [fillP]
                        rw [if_pos ⟨trivial, rfl⟩, if_pos ⟨trivial, by omega⟩, if_neg]
                        · rfl
                        · intro hc; exact of_decide_eq_false ho3 ⟨hc.1, HPR.out.2.1 (.inr (.inl hc.1)), by have := hc.2; omega⟩
                      clear ho2 ho3 hk2 hv2
                      go_wp2_with (first
                        | (go_at_call 59; have hh5 := H5.out; refine (HP3.out _).mono ?_; rintro e w6 ⟨rfl, h6⟩; have h6' : Below w0.heap.size w0 w6 := H5.out.trans (h6.mono H5.out.size); obtain ⟨r0, r1, r2, r3, r4, rf⟩ := five_set ((h6'.block (w.heap.size + 1) (by have := HZ.out; omega)).trans HRES.out); have rf0 := rf 0; have rf1 := rf 1; have rf2 := rf 2; have rf3 := rf 3; have rf4 := rf 4; clear rf; have H6 := Lib.hid h6'; clear h6 h6' hh5)
                        | (go_at_call 59; refine (HP2.out _).mono ?_; rintro e w5 ⟨rfl, h5⟩; have h5' : Below w0.heap.size w0 w5 := HB0W.out.trans (h5.mono HB0W.out.size); obtain ⟨_, _, e2, _⟩ := HBW.out w5 h5'; obtain ⟨m0, m1, m2, _⟩ := HX3.out w5 h5'; have H5 := Lib.hid h5'; clear h5 h5'))
                      obtain ⟨y0, y1, y2, y3, y4, _⟩ := RN.out w6 infZ H6.out; exact bodyPost_ret (v := .tuple #[.agg #[.int .i64 0, .int .i64 0, .int .i64 0, .int .i64 0, .int .i64 0], .bool false]) (by simp only [set5, infZ] at y0 y1 y2 y3 y4; simp [results, Tryd.results36, go_sem, y0, y1, y2, y3, y4]) rfl (NO.out _ H6.out hn)
                    | true =>
                      obtain ⟨rfl, hk3, hv3⟩ := of_decide_eq_true ho3
                      obtain ⟨b3, rfl⟩ : ∃ b, v3 = [b] := List.length_eq_one_iff.1 (by omega)
                      have HB3 := Lib.hid (fun (W : World) (h : Below w0.heap.size w0 W) => byte_cell (HX3.out W h).2.2.2)
                      have hq2 : numQ2 v2 = (numV v2, 0) := by unfold numQ2; rw [if_neg (by omega)]
                      have HNU : Hid (∀ W, Below w0.heap.size w0 W → Calls Tryd.prog 61 #[.slice a2 v2.length c2] W fun e w' => e = .returned (.tuple #[.int .i64 (numV v2), .int .i64 0]) ∧ w' = W) := Lib.hid (fun W h => by have := rnumber_any v2 _ _ W (HX2.out W h).2.2.2; rwa [hq2] at this)
                      have hs : infoP 48 (.cons 6 v0 k0 (.cons 2 [b1] k1 (.cons 4 v2 k2 (.cons 2 [b3] k3 .nil)))) = some ⟨4, bv b1, 0, numV v2, bv b3⟩ := by
                        rw [HIP.out, fieldsP_fill 4 (by omega)]
                        show Option.map infF (fillP [(2, 1, 1), (4, 4, 3), (2, 1, 4)] _ _) = _
                        simp only [fillP]
                        rw [if_pos ⟨trivial, rfl⟩, if_pos ⟨trivial, by omega⟩, if_pos ⟨trivial, rfl⟩, numV_one, numV_one]
                        rfl
                      clear ho2 ho3 hk2 hv2 hk3 hv3 hq2
                      have YS := Lib.hid (fun W hb => YES.out W _ hb hs)
                      obtain ⟨z, hz⟩ : ∃ z, numV v2 = z := ⟨_, rfl⟩
                      rw [hz] at YS HNU
                      clear hs hz
                      have hne5 : ¬ w3.heap.size = w.heap.size + 1 := by have := HZ.out; omega
                      have hne6 : ¬ w.heap.size + 1 = w3.heap.size := by omega
                      go_wp2_with (first
                        | (go_at_call 61; refine (HNU.out _ H6.out).mono ?_; rintro e w7 ⟨rfl, hw7⟩; rw [hw7]; clear hw7 w7)
                        | (go_at_call 59; have hh5 := H5.out; refine (HP3.out _).mono ?_; rintro e w6 ⟨rfl, h6⟩; have h6' : Below w0.heap.size w0 w6 := H5.out.trans (h6.mono H5.out.size); obtain ⟨r0, r1, r2, r3, r4, rf⟩ := five_set ((h6'.block (w.heap.size + 1) (by have := HZ.out; omega)).trans HRES.out); have rf0 := rf 0; have rf1 := rf 1; have rf2 := rf 2; have rf3 := rf 3; have rf4 := rf 4; clear rf; have HL6 := Lib.hid (HL5.out.trans (h6.mono HL5.out.size)); have ho6 := (HL6.out.block w3.heap.size HOB.out).trans HOQ.out; obtain ⟨z0, z1, z2, z3, z4, zf⟩ := five_set ho6; have zf3 := zf 3; have zf4 := zf 4; obtain ⟨_, _, f2, _⟩ := HBW.out w6 h6'; obtain ⟨m0, m1, m2, _⟩ := HX2.out w6 h6'; have h7' : Below w0.heap.size w0 (w6.setCell ⟨w3.heap.size, 3, none⟩ (.int .i64 z)) := h6'.setCell hobw _; obtain ⟨_, _, g2, _⟩ := HBW.out _ h7'; obtain ⟨j0, j1, j2, _⟩ := HX3.out _ h7'; obtain ⟨b5, o5, ea, bc5⟩ := HB3.out _ h7'; subst ea; obtain ⟨s0, s1, s2, s3, s4, _⟩ := five_set (row_set (o := 3) (v := .int .i64 z) ho6); obtain ⟨u0, u1, u2, u3, u4, _⟩ := five_set (row_set (o := 4) (v := .int .i64 (bv b3)) (row_set (o := 3) (v := .int .i64 z) ho6)); have H6 := Lib.hid h6'; clear h6 h6' hh5 h7' ho6 zf)
                        | (go_at_call 59; refine (HP2.out _).mono ?_; rintro e w5 ⟨rfl, h5⟩; have HL5 := Lib.hid h5; have h5' : Below w0.heap.size w0 w5 := HB0W.out.trans (h5.mono HB0W.out.size); obtain ⟨_, _, e2, _⟩ := HBW.out w5 h5'; obtain ⟨m0, m1, m2, _⟩ := HX3.out w5 h5'; have H5 := Lib.hid h5'; clear h5 h5'))
                      have h8 : Below w0.heap.size w0 ((w6.setCell ⟨w3.heap.size, 3, none⟩ (.int .i64 z)).setCell ⟨w3.heap.size, 4, none⟩ (.int .i64 (bv b3))) := (H6.out.setCell hobw _).setCell hobw _
                      obtain ⟨y0, y1, y2, y3, y4, _⟩ := RN.out _ ⟨4, bv b1, 0, z, bv b3⟩ h8
                      exact bodyPost_ret (v := .tuple #[.agg #[.int .i64 4, .int .i64 (bv b1), .int .i64 0, .int .i64 z, .int .i64 (bv b3)], .bool true]) (by simp only [set5] at y0 y1 y2 y3 y4; simp [results, Tryd.results36, go_sem, y0, y1, y2, y3, y4]) rfl (YS.out _ h8)
                · have hn4' : ((n : Int) != 4) = true := by rw [bne_iff_ne]; omega
                  have hn := LEN.out (by omega) (by show ¬ _ = 3; have h9 := HKN.out; simp only [Ns.len]; omega)
                  obtain ⟨r0, r1, r2, r3, r4, rf⟩ := five_set ((HB0W.out.block (w.heap.size + 1) (by have := HZ.out; omega)).trans HRES.out); have rf0 := rf 0; have rf1 := rf 1; have rf2 := rf 2; have rf3 := rf 3; have rf4 := rf 4; clear rf
                  clear hn4
                  go_wp2_with fail
                  obtain ⟨y0, y1, y2, y3, y4, _⟩ := RN.out wr infZ HB0W.out; exact bodyPost_ret (v := .tuple #[.agg #[.int .i64 0, .int .i64 0, .int .i64 0, .int .i64 0, .int .i64 0], .bool false]) (by simp only [set5, infZ] at y0 y1 y2 y3 y4; simp [results, Tryd.results36, go_sem, y0, y1, y2, y3, y4]) rfl (NO.out _ HB0W.out hn)
              · have HQ := Lib.hid h
                have h2' : ((q : Int) == 2) = false := by simp; omega
                have h3' : ((q : Int) == 3) = false := by simp; omega
                have h4' : ((q : Int) == 4) = false := by simp; omega
                have h0' : ((q : Int) == 0) = false := by simp; omega
                obtain ⟨o2, ho2⟩ : ∃ o, ((n : Int) == 2) = o := ⟨_, rfl⟩
                have HO2 := Lib.hid ho2
                obtain ⟨r0, r1, r2, r3, r4, rf⟩ := five_set ((HB0W.out.block (w.heap.size + 1) (by have := HZ.out; omega)).trans HRES.out)
                have HRF := Lib.hid rf
                have HRW := Lib.hid ((HB0W.out.block (w.heap.size + 1) (by have := HZ.out; omega)).trans HRES.out)
                have EXI : Hid (∃ u0 u1 u2 u3 u4, wr.cell? ⟨w.heap.size + 1, 0, none⟩ = some u0 ∧ wr.cell? ⟨w.heap.size + 1, 1, none⟩ = some u1 ∧ wr.cell? ⟨w.heap.size + 1, 2, none⟩ = some u2 ∧ wr.cell? ⟨w.heap.size + 1, 3, none⟩ = some u3 ∧ wr.cell? ⟨w.heap.size + 1, 4, none⟩ = some u4) := Lib.hid ⟨_, _, _, _, _, r0, r1, r2, r3, r4⟩
                have PP := Lib.hid (show wr.cell? ⟨w3.heap.size, 0, none⟩ = some (.int .i64 q) ∧ wr.cell? ⟨w3.heap.size, 1, none⟩ = some (.int .i64 (bv b1)) ∧ wr.cell? ⟨w3.heap.size, 2, none⟩ = some (.int .i64 0) ∧ wr.cell? ⟨w3.heap.size, 3, none⟩ = some (.int .i64 0) ∧ wr.cell? ⟨w3.heap.size, 4, none⟩ = some (.int .i64 0) from ⟨p0, p1, p2, p3, p4⟩)
                have D2 : Hid (wr.cell? ⟨w.heap.size, 2, none⟩ = some (.slice (some ⟨kb, ko, none⟩) n kc)) := Lib.hid d2
                clear ho2 h rf r0 r1 r2 r3 r4
                go_upto_region 10 with fail
                clear p0 p1 p2 p3 p4 pf2 pf3 pf4 d2
                refine wp_region_rg 6 [some 57, some 58, some 59, some 60, some 61, none] [[], [], [1], [1, 2], [1, 2, 3], [0]]
                  (fun L _ w1 => w1.cell? ⟨w.heap.size, 2, none⟩ = some (.slice (some ⟨kb, ko, none⟩) n kc) ∧ (L 5 = false → w1 = wr.drew) ∧ (L 5 = true → L 0 = true ∧ w1 = (set5 wr (w.heap.size + 1) ⟨q, bv b1, 0, 0, 0⟩).drew)) (fun _ _ => True)
                  [fun v w1 => v 0 = .agg #[.int .i64 q, .int .i64 (bv b1), .int .i64 0, .int .i64 0, .int .i64 0],
                   fun v _ => v 1 = .pointer (some ⟨w.heap.size, 2, none⟩),
                   fun v _ => v 2 = .slice (some ⟨kb, ko, none⟩) n kc,
                   fun v _ => v 3 = .int .i64 n,
                   fun v _ => v 4 = .bool o2,
                   fun v w1 => True]
                  (by kernel_rfl) (by kernel_rfl) (fun _ => ⟨D2.out, fun _ => rfl, fun h => by cases h⟩) ?st ?steps ?tail
                case st =>
                  exact (.cons (fun _ _ _ _ _ _ h => h) (.cons (fun _ _ _ _ _ _ h => h) (.cons (fun _ _ _ _ _ _ h => h) (.cons (fun _ _ _ _ _ _ h => h) (.cons (fun _ _ _ _ _ _ h => h) (.cons (fun _ _ _ _ _ _ h => h) .nil))))))
                case steps =>
                  simp only [List.take_succ_cons, List.take_zero]
                  refine (.cons ?_ (.cons ?_ (.cons ?_ (.cons ?_ (.cons ?_ (.cons ?_ .nil))))))
                  all_goals (intro L v w1 hJ hL hA hF K hK; simp only [fillRG, Act.put, Nat.zero_add, Nat.reduceAdd, List.setIfInBounds_toArray, List.set_cons_zero, List.set_cons_succ] at hK ⊢)
                  · have h5 : L 5 = false := by
                      cases h : L 5 with
                      | false => rfl
                      | true => have := (hJ.2.2 h).1; rw [hL] at this; cases this
                    have ew := hJ.2.1 h5
                    subst ew
                    obtain ⟨p0, p1, p2, p3, p4⟩ := PP.out
                    go_simp
                    exact hK _ _ ⟨hJ.1, fun _ => rfl, fun h => (by rw [show setRG L 0 5 = L 5 from rfl, h5] at h; cases h)⟩ trivial rfl
                  · go_simp
                    refine hK _ _ hJ trivial ?_
                    first | exact rfl | exact val_mod _
                  · have e1 : v 1 = .pointer (some ⟨w.heap.size, 2, none⟩) := hF 1 (hA 1 (by simp))
                    have c0 := hJ.1
                    simp only [e1] at hK
                    go_simp
                    refine hK _ _ hJ trivial ?_
                    first | exact rfl | exact val_mod _
                  · have e2 : v 2 = .slice (some ⟨kb, ko, none⟩) n kc := hF 2 (hA 2 (by simp))
                    simp only [e2] at hK
                    go_simp
                    refine hK _ _ hJ trivial ?_
                    first | exact rfl | exact val_mod _
                  · have e3 : v 3 = .int .i64 n := hF 3 (hA 3 (by simp))
                    have h2 := HO2.out
                    simp only [e3] at hK
                    go_simp
                    refine hK _ _ hJ trivial ?_
                    first | exact rfl | exact val_mod _
                  · have e0 : v 0 = .agg #[.int .i64 q, .int .i64 (bv b1), .int .i64 0, .int .i64 0, .int .i64 0] := hF 0 (hA 0 (by simp))
                    have ew := hJ.2.1 hL
                    subst ew
                    obtain ⟨u0, u1, u2, u3, u4, r0, r1, r2, r3, r4⟩ := EXI.out
                    have rf0 : wr.frozen? ⟨w.heap.size + 1, 0, none⟩ = false := HRF.out 0
                    have rf1 : wr.frozen? ⟨w.heap.size + 1, 1, none⟩ = false := HRF.out 1
                    have rf2 : wr.frozen? ⟨w.heap.size + 1, 2, none⟩ = false := HRF.out 2
                    have rf3 : wr.frozen? ⟨w.heap.size + 1, 3, none⟩ = false := HRF.out 3
                    have rf4 : wr.frozen? ⟨w.heap.size + 1, 4, none⟩ = false := HRF.out 4
                    simp only [e0] at hK
                    go_simp
                    change K _ (set5 wr (w.heap.size + 1) ⟨q, bv b1, 0, 0, 0⟩).drew
                    have hJ5 : L 0 = true := hA 0 (by simp)
                    refine hK undef (set5 wr (w.heap.size + 1) ⟨q, bv b1, 0, 0, 0⟩).drew ⟨?_, ?_, ?_⟩ trivial trivial
                    rotate_left
                    · intro h; have h9 : true = false := h; cases h9
                    · intro _; exact ⟨hJ5, rfl⟩
                    have hne : ¬ w.heap.size + 1 = w.heap.size := by omega
                    exact cell_set5 (w := wr) D2.out (by omega)
                case tail =>
                  intro v w1 hJ hF
                  have e1 : v 1 = .pointer (some ⟨w.heap.size, 2, none⟩) := hF 1 (by simp)
                  have e2 : v 2 = .slice (some ⟨kb, ko, none⟩) n kc := hF 2 (by simp)
                  have e3 : v 3 = .int .i64 n := hF 3 (by simp)
                  have e4 : v 4 = .bool o2 := hF 4 (by simp)
                  have e4 : v 4 = .bool o2 := hF 4 (by simp)
                  have hw := (hJ.2.2 rfl).2
                  subst hw
                  simp only [List.drop_succ_cons, List.drop_zero, fillRG, Act.put, Nat.zero_add, Nat.reduceAdd, List.setIfInBounds_toArray, List.set_cons_zero, List.set_cons_succ]
                  clear hJ hF
                  obtain ⟨y0, y1, y2, y3, y4, _⟩ := five_set (set5_row (w := wr) (g := w.heap.size + 1) ⟨q, bv b1, 0, 0, 0⟩ HRW.out)
                  go_wp2_with fail
                  have HE : RInfoEnd (infoA 48 (.cons 6 v0 k0 (.cons 2 [b1] k1 r))) w (.returned (.tuple #[.agg #[.int .i64 q, .int .i64 (bv b1), .int .i64 0, .int .i64 0, .int .i64 0],   .bool o2])) (set5 wr (w.heap.size + 1) ⟨q, bv b1, 0, 0, 0⟩).drew := by
                    have hsz := HZ.out
                    rw [← set5_drew]
                    cases o2 with
                    | true =>
                      have hn2 : n = 2 := by have := HO2.out; simp at this; omega
                      obtain rfl : r = .nil := by
                        cases r with
                        | nil => rfl
                        | cons a b c d => have h9 := HKN.out; simp only [Ns.len] at h9; omega
                      refine YES.out _ ⟨q, bv b1, 0, 0, 0⟩ HB0W.out.drew ?_
                      rw [HIP.out, fieldsP_fill q (by have := HQ.out; omega)]
                      unfold formP
                      rw [if_neg (by have := HQ.out; omega), if_neg (by have := HQ.out; omega)]
                      simp only [fillP]
                      rw [if_pos ⟨trivial, rfl⟩, numV_one]
                      rfl
                    | false =>
                      have hnn : infoP 48 (.cons 6 v0 k0 (.cons 2 [b1] k1 r)) = none := LEN.out (by have := HQ.out; omega) (by
                        unfold formP
                        rw [if_neg (by have := HQ.out; omega), if_neg (by have := HQ.out; omega)]
                        have h9 := HKN.out
                        have h8 := HO2.out
                        simp at h8
                        simp only [Ns.len, List.length_cons, List.length_nil]
                        omega)
                      rw [infoA_none hnn]
                      exact ⟨⟨q, bv b1, 0, 0, 0⟩, rfl, fun h => (by cases h), set5_below (HB0.out.trans (HB0W.out.drew.mono (by omega))) (by omega)⟩
                  exact bodyPost_ret (v := .tuple #[.agg #[.int .i64 q, .int .i64 (bv b1), .int .i64 0, .int .i64 0, .int .i64 0], .bool o2]) (by simp [results, Tryd.results36, go_sem, y0, y1, y2, y3, y4]) rfl HE
            · obtain ⟨m, rfl⟩ : ∃ k, m = k + 1 := ⟨m - 1, by omega⟩
              have hj5 : j < 5 := by omega
              have hd6 : decide ((2 : Int) + j ≤ 6) = true := decide_eq_true (by omega)
              obtain ⟨o, ho⟩ : ∃ o, decide (v0 = identB (2 + j)) = o := ⟨_, rfl⟩
              have HO := Lib.hid ho
              have X2 := Lib.hid (fun W (h : Below wr.heap.size wr W) => (HBW.out W (HB0W.out.trans (h.mono HB0W.out.size))).2.2.1)
              have Y2 := Lib.hid (fun W (h : Below wr.heap.size wr W) => (HX0.out W (HB0W.out.trans (h.mono HB0W.out.size))).2.1)
              have Z2 := Lib.hid (fun W (h : Below wr.heap.size wr W) => (HX0.out W (HB0W.out.trans (h.mono HB0W.out.size))).2.2.2)
              have HIJ := Lib.hid (HI.out j hj5)
              clear ho
              go_upto_region 7 with fail
              refine wp_region_rg 8 [some 45, some 46, some 47, some 48, some 49, some 50, some 51, some 52] [[], [0], [0, 1], [0, 1, 2], [0, 1, 2, 3], [], [5], [0, 1, 2, 3, 4, 5, 6]]
                (fun _ _ w1 => Below wr.heap.size wr w1) (fun w1 w2 => Below w1.heap.size w1 w2)
                [fun v _ => v 0 = .pointer (some ⟨w.heap.size, 2, none⟩),
                 fun v _ => v 1 = .slice (some ⟨kb, ko, none⟩) n kc,
                 fun v _ => v 2 = .pointer (some ⟨kb, ko, none⟩),
                 fun v _ => v 3 = .pointer (some ⟨kb, ko + 1, none⟩),
                 fun v _ => v 4 = .slice a0 v0.length c0,
                 fun v _ => v 5 = .int .i64 (2 + j),
                 fun v w1 => BsS w1 (New wr w1) (v 6) (identB (2 + j)),
                 fun v w1 => v 7 = .bool o]
                (by kernel_rfl) (by kernel_rfl) (fun _ => (Below.refl _ _).drew) ?st ?steps ?tail
              case st =>
                exact (.cons (fun _ _ _ _ _ _ h => h) (.cons (fun _ _ _ _ _ _ h => h) (.cons (fun _ _ _ _ _ _ h => h) (.cons (fun _ _ _ _ _ _ h => h) (.cons (fun _ _ _ _ _ _ h => h) (.cons (fun _ _ _ _ _ _ h => h) (.cons (fun _ _ _ _ _ hr h => BsS.keep h fun b hs hl => ⟨hr.block b hl, hs.1, Nat.lt_of_lt_of_le hs.2 hr.size⟩) (.cons (fun _ _ _ _ _ _ h => h) .nil))))))))
              case steps =>
                simp only [List.take_succ_cons, List.take_zero]
                refine (.cons ?_ (.cons ?_ (.cons ?_ (.cons ?_ (.cons ?_ (.cons ?_ (.cons ?_ (.cons ?_ .nil))))))))
                all_goals (intro L v w1 hJ hL hA hF K hK; simp only [fillRG, Act.put, Nat.zero_add, Nat.reduceAdd, List.setIfInBounds_toArray, List.set_cons_zero, List.set_cons_succ] at hK ⊢)
                · go_simp
                  refine hK _ _ hJ (Below.refl _ _) ?_
                  first | exact rfl | exact val_mod _
                · have e0 : v 0 = .pointer (some ⟨w.heap.size, 2, none⟩) := hF 0 (hA 0 (by simp))
                  have c0 := (X2.out _ hJ)
                  simp only [e0] at hK
                  go_simp
                  refine hK _ _ hJ (Below.refl _ _) ?_
                  first | exact rfl | exact val_mod _
                · have e1 : v 1 = .slice (some ⟨kb, ko, none⟩) n kc := hF 1 (hA 1 (by simp))
                  have hn0 : 0 < n := by omega
                  simp only [e1] at hK
                  go_simp
                  refine hK _ _ hJ (Below.refl _ _) ?_
                  first | exact rfl | exact val_mod _
                · have e2 : v 2 = .pointer (some ⟨kb, ko, none⟩) := hF 2 (hA 2 (by simp))
                  simp only [e2] at hK
                  go_simp
                  refine hK _ _ hJ (Below.refl _ _) ?_
                  first | exact rfl | exact val_mod _
                · have e3 : v 3 = .pointer (some ⟨kb, ko + 1, none⟩) := hF 3 (hA 3 (by simp))
                  have c0 := (Y2.out _ hJ)
                  simp only [e3] at hK
                  go_simp
                  refine hK _ _ hJ (Below.refl _ _) ?_
                  first | exact rfl | exact val_mod _
                · go_simp
                  refine hK _ _ hJ (Below.refl _ _) ?_
                  first | exact rfl | exact val_mod _
                · have e5 : v 5 = .int .i64 (2 + j) := hF 5 (hA 5 (by simp))
                  simp only [e5] at hK
                  go_simp
                  refine (HIJ.out w1).mono ?_
                  rintro e w5 ⟨v5, rfl, h1, h2⟩
                  exact hK _ _ (hJ.trans (h2.mono hJ.size)) h2 (h1.keep fun b hs _ => ⟨rfl, Nat.le_trans hJ.size hs.1, hs.2⟩)
                · have e4 : v 4 = .slice a0 v0.length c0 := hF 4 (hA 4 (by simp))
                  simp only [e4] at hK
                  have h6 : BsS w1 (New wr w1) (v 6) (identB (2 + j)) := hF 6 (hA 6 (by simp))
                  obtain ⟨a6, c6, r6⟩ := h6.form2
                  rw [r6] at h6
                  have HQ := Lib.hid (same_any _ _ v0 (identB (2 + j)) _ _ w1 (Z2.out _ hJ) h6)
                  rw [HO.out] at HQ
                  clear h6
                  simp only [r6] at hK
                  go_simp
                  refine HQ.out.mono ?_
                  rintro e w5 ⟨rfl, nd, hw5⟩
                  rw [hw5]
                  exact hK _ _ (below_drewN hJ nd) (below_drewN (Below.refl _ _) nd) rfl
              case tail =>
                intro v w1 hJ hF
                have e0 : v 0 = .pointer (some ⟨w.heap.size, 2, none⟩) := hF 0 (by simp)
                have e1 : v 1 = .slice (some ⟨kb, ko, none⟩) n kc := hF 1 (by simp)
                have e2 : v 2 = .pointer (some ⟨kb, ko, none⟩) := hF 2 (by simp)
                have e3 : v 3 = .pointer (some ⟨kb, ko + 1, none⟩) := hF 3 (by simp)
                have e4 : v 4 = .slice a0 v0.length c0 := hF 4 (by simp)
                have e5 : v 5 = .int .i64 (2 + j) := hF 5 (by simp)
                have e7 : v 7 = .bool o := hF 7 (by simp)
                simp only [List.drop_succ_cons, List.drop_zero, fillRG, Act.put, Nat.zero_add, Nat.reduceAdd, List.setIfInBounds_toArray, List.set_cons_zero, List.set_cons_succ]
                have HJ := Lib.hid hJ
                have e7' := e7
                clear hJ hF
                obtain ⟨b7, hb7⟩ : ∃ b, b = v 7 := ⟨_, rfl⟩
                rw [← hb7] at e7' ⊢
                subst e7'
                clear hb7
                have HO7 := Lib.hid ((HJ.out.block w3.heap.size (Array.getElem?_eq_some_iff.1 HOU.out).1).trans HOU.out)
                have HB7 := Lib.hid (HBL.out.trans (HJ.out.mono HBL.out.size))
                cases o
                · have HPU : Hid (protU v0 (j + 1) = protU v0 j) := Lib.hid (by simp only [protU]; exact if_neg (of_decide_eq_false HO.out))
                  go_wp2_with fail
                  go_roundg m
                  case measure => omega
                  case rel => exact ⟨j + 1, m, rfl, by omega, by go_num, by rw [HPU.out]; exact HO7.out, HB7.out⟩
                · have HPU : Hid (protU v0 (j + 1) = 2 + j) := Lib.hid (by simp only [protU]; exact if_pos (of_decide_eq_true HO.out))
                  obtain ⟨p0, _, _, _, _, pf⟩ := five_set HO7.out
                  have pf0 := pf 0
                  clear pf
                  go_wp2_with fail
                  go_roundg m
                  case measure => omega
                  case rel => exact ⟨j + 1, m, rfl, by omega, by go_num, by rw [HPU.out]; exact row_set (o := 0) HO7.out, HB7.out.setCell (Nat.le_refl _) _⟩
end Go.Proofs.YtdpiehhblflacaaDoor
