/- Layer 23: ChipauthChecks. -/
import Derived.Test.YtnogcnmoeekcpaaDoorChi4
namespace Go.Proofs.YtnogcnmoeekcpaaDoor
open Go.RowKit Go.Deep

set_option maxRecDepth 100000 in
set_option maxHeartbeats 4000000 in
theorem chipauthChecks_law (a : Int) (wa : (Lit.int .i64 a).wf = true) (b : Int) (wb : (Lit.int .i64 b).wf = true) (v : Value) (n : List UInt8) (hln : n.length ≤ 140737488351232) (vt : Value) (t : List UInt8) (hlt : t.length ≤ 140737488351232) (w : World) (hK : KR w ∧ KD w) (hv : Bs w w.heap.size v n) (ht : Bs w w.heap.size vt t) : Calls Tryd.prog 4 #[.int .i64 a, .int .i64 b, v, vt] w fun e w' => e = .returned (.bool true) ∧ Below w.heap.size w w' := by
  have HK := Lib.hid hK
  have V0 := Lib.hid ((VW.nil.add (S := (· < w.heap.size)) (fun _ h => h) ht).add (S := (· < w.heap.size)) (fun _ h => h) hv)
  obtain ⟨A, m, c, rfl⟩ := hv.form
  obtain rfl := Bs.lenEq hv
  obtain ⟨TA, tm, tc, rfl⟩ := ht.form
  obtain rfl := Bs.lenEq ht
  clear hK hv ht hlt hln wa wb
  by_cases hn : (n.length : Int) > 100
  · have t1 : decide ((n.length : Int) > 100) = true := decide_eq_true hn
    go_enter Tryd.func4, Tryd.ntmps4
    go_wp2_with (go_at_call 7; refine (awakeC_any w HK.out.2).mono ?_; rintro e w1 ⟨rfl, hb⟩; have B1 := Lib.hid hb; clear hb)
    go_ret
    exact ⟨rfl, B1.out⟩
  · have t1 : decide ((n.length : Int) > 100) = false := decide_eq_false hn
    clear hn
    by_cases hn : (t.length : Int) > 100
    · have t2 : decide ((t.length : Int) > 100) = true := decide_eq_true hn
      go_enter Tryd.func4, Tryd.ntmps4
      go_wp2_with (go_at_call 7; refine (awakeC_any w HK.out.2).mono ?_; rintro e w1 ⟨rfl, hb⟩; have B1 := Lib.hid hb; clear hb)
      go_ret
      exact ⟨rfl, B1.out⟩
    · have t2 : decide ((t.length : Int) > 100) = false := decide_eq_false hn
      clear hn
      obtain ⟨⟨E, K1, K2, num⟩, hr⟩ : ∃ x, checkW a b n t = x := ⟨_, rfl⟩
      have HR := Lib.hid hr
      clear hr
      go_enter Tryd.func4, Tryd.ntmps4
      go_wp2_with (first
        | (go_at_call 10; refine (csame_any _ _ K1 K2 K1 K2 num num _ _ w3 ⟨_, _, rfl, V3.out.at 3 rfl, V3.out.at 2 rfl⟩ ⟨_, _, rfl, V3.out.at 1 rfl, V3.out.at 0 rfl⟩).mono ?_; rintro e w4 ⟨rfl, hb⟩; rw [decide_eq_true (show K1 = K1 ∧ K2 = K2 ∧ num = num from ⟨rfl, rfl, rfl⟩)]; have B4 := Lib.hid (B3.out.trans (hb.mono B3.out.size)); clear hb)
        | (go_at_call 7; have hbf : Below w2.heap.size w2 (fillS w2 (.slice y1 yn1 yc1) (.slice y2 yn2 yc2) (.int .i64 num)) := below_fillS w2 _ _ _; refine (awakeC_any (fillS w2 (.slice y1 yn1 yc1) (.slice y2 yn2 yc2) (.int .i64 num)) (HK.out.2.below (B2.out.trans (hbf.mono B2.out.size)) HK.out.2.lt)).mono ?_; rintro e w3 ⟨rfl, hb0⟩; have hb := hbf.trans (hb0.mono hbf.size);  have V3 := Lib.hid (V2.out.on hb); have B3 := Lib.hid (B2.out.trans (hb.mono B2.out.size)); clear n0 n1 n2 nf0 nf1 nf2; obtain ⟨z0, z1, z2, _⟩ := sess3 ((hb.block _ (Array.getElem?_eq_some_iff.1 X2.out).1).trans X2.out); obtain ⟨u0, u1, u2, _⟩ := sess3 ((hb0.block _ (fill_lt w2 _ _ _)).trans (fill_row w2 (.slice y1 yn1 yc1) (.slice y2 yn2 yc2) (.int .i64 num))); clear hb hb0 hbf)
        | (go_at_call 12; have hbf : Below w1.heap.size w1 (fillS w1 (.slice x1 xn1 xc1) (.slice x2 xn2 xc2) (.int .i64 num)) := below_fillS w1 _ _ _; refine (rccheck_any a b _ _ n t (fillS w1 (.slice x1 xn1 xc1) (.slice x2 xn2 xc2) (.int .i64 num)) (HK.out.1.below (B1.out.trans (hbf.mono B1.out.size)) HK.out.1.lt) ((V1.out.on hbf).at 2 rfl) ((V1.out.on hbf).at 3 rfl)).mono ?_; rw [HR.out]; rintro e w2 ⟨s2, rfl, ⟨P1, P2, rfl, h1, h2⟩, hb0⟩; have hb := hbf.trans (hb0.mono hbf.size);  obtain ⟨y1, yn1, yc1, hp⟩ := h1.form; subst hp; obtain ⟨y2, yn2, yc2, hp⟩ := h2.form; subst hp; have V2 := Lib.hid ((((V1.out.on hb).new h1).new h2)); have B2 := Lib.hid (B1.out.trans (hb.mono B1.out.size)); have X2 : Hid (w2.heap[w1.heap.size]? = some (.cells #[.slice x1 xn1 xc1, .slice x2 xn2 xc2, .int .i64 num] 25 (0, 0))) := Lib.hid ((hb0.block _ (fill_lt w1 _ _ _)).trans (fill_row w1 _ _ _)); clear n0 n1 n2 nf0 nf1 nf2; obtain ⟨n0, n1, n2, nf⟩ := sess3 (fresh_row w2); have nf0 := nf 0; have nf1 := nf 1; have nf2 := nf 2; clear nf; clear h1 h2 hb hb0 hbf)
        | (go_at_call 11; refine (ccheck_any a b _ _ n t w HK.out.2 (V0.out.at 0 rfl) (V0.out.at 1 rfl)).mono ?_; rw [HR.out]; rintro e w1 ⟨s1, rfl, ⟨P1, P2, rfl, h1, h2⟩, hb⟩;  obtain ⟨x1, xn1, xc1, hp⟩ := h1.form; subst hp; obtain ⟨x2, xn2, xc2, hp⟩ := h2.form; subst hp; have V1 := Lib.hid ((((V0.out.on hb).new h1).new h2)); have B1 := Lib.hid hb; obtain ⟨n0, n1, n2, nf⟩ := sess3 (fresh_row w1); have nf0 := nf 0; have nf1 := nf 1; have nf2 := nf 2; clear nf; clear h1 h2 hb))
      go_ret
      exact ⟨rfl, B4.out⟩
end Go.Proofs.YtnogcnmoeekcpaaDoor
