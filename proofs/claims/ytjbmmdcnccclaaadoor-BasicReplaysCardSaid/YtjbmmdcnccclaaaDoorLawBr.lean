/- Layer 20: BasicReplays. -/
import Derived.Test.YtjbmmdcnccclaaaDoorQAwB
import Derived.Test.YtjbmmdcnccclaaaDoorExact
import Derived.Test.YtjbmmdcnccclaaaDoorQSpoil
import Derived.Test.YtjbmmdcnccclaaaDoorDieB
namespace Go.Proofs.YtjbmmdcnccclaaaDoor
open Go.RowKit Go.Deep

theorem turned_ne {l : List UInt8} {k : Nat} {u : UInt8} (hk : k < l.length) (hu : u ≠ 0) : l.set k (gb l k ^^^ u) ≠ l := by
  intro h
  have h1 := congrArg (fun x => gb x k) h
  simp only [gb, List.getD_eq_getElem?_getD] at h1
  rw [List.getElem?_set_self hk, List.getElem?_eq_getElem hk] at h1
  simp only [Option.getD_some] at h1
  exact hu (by
    have h2 : l[k] ^^^ (l[k] ^^^ u) = l[k] ^^^ l[k] := by rw [h1]
    rw [← UInt8.xor_assoc, UInt8.xor_self, UInt8.zero_xor] at h2
    exact h2)
theorem ofI_ne0 {z : Int} (h0 : 0 < z) (h1 : z ≤ 255) : ofI z ≠ 0 := by
  intro h
  have e := bv_in (z := z) (by omega) (by omega)
  rw [h] at e
  simp [bv] at e
  omega
set_option maxRecDepth 100000 in
set_option maxHeartbeats 4000000 in
theorem basicReplays_law (v : Value) (n : Nat) (a : Int) (wa : (Lit.int .i64 a).wf = true) (b : Int) (wb : (Lit.int .i64 b).wf = true) (w : World) (hK : KD w) (hv : IntsS w (· < w.heap.size) v n) : Calls Tryd.prog 6 #[v, .int .i64 a, .int .i64 b] w fun e w' => e = .returned (.bool true) ∧ Below w.heap.size w w' := by
  have WA : Hid (I64in a) := Lib.hid (wf_i64' wa)
  have WB : Hid (I64in b) := Lib.hid (wf_i64' wb)
  clear wa wb
  have HL := Lib.hid (light_any _ v n w hv)
  have HR := Lib.hid (roll_any v n w hv)
  have HK := Lib.hid hK
  obtain ⟨va, vc, rfl⟩ := hv.form
  clear hv hK
  by_cases hn : (n : Int) ≤ 400
  · have hn1 : decide ((n : Int) ≤ 400) = true := decide_eq_true hn
    rw [hn1] at HL
    clear hn hn1
    go_enter Tryd.func6, Tryd.ntmps6
    go_upto_region 7 with (first
      | (go_at_call 13; refine HL.out.mono ?_; rintro e w' ⟨rfl, hw'⟩; rw [hw']; clear hw' w')
      | (go_at_call 14; refine HR.out.mono ?_; rintro e w1 ⟨rfl, hd, hb⟩; have D1 := Lib.hid hd; have B1 := Lib.hid hb; have s1 := hb.size; have s1' := hd.le; clear hd hb)
      | (go_at_call 15; refine (exactly_any _ _ n 16 16 rfl w4 D4.out (by decide)).mono ?_; rintro e w5 ⟨v4, l4, rfl, hs, hl, hd⟩; obtain ⟨A4, c4, hv⟩ : ∃ A c, v4 = .slice A 16 c := (by obtain ⟨a, c, e, _⟩ := hs; rw [hl] at e; exact ⟨a, c, e⟩); subst hv; have X4_5 := Lib.hid (hs.madeB (p := w.heap.size) (by omega)); have L4 := Lib.hid hl; have D5 := Lib.hid hd.1; have B5 := Lib.hid (B4.out.grown hd.2 (by omega) (fun k e => by injection e with e; omega)); have s5 := hd.2.size; have X1_5 := Lib.hid (X1_4.out.dieB hd); have X2_5 := Lib.hid (X2_4.out.dieB hd); have X3_5 := Lib.hid (X3_4.out.dieB hd); clear hs hl hd)
      | (go_at_call 15; refine (exactly_any _ _ n 8 8 rfl w3 D3.out (by decide)).mono ?_; rintro e w4 ⟨v3, l3, rfl, hs, hl, hd⟩; obtain ⟨A3, c3, hv⟩ : ∃ A c, v3 = .slice A 8 c := (by obtain ⟨a, c, e, _⟩ := hs; rw [hl] at e; exact ⟨a, c, e⟩); subst hv; have X3_4 := Lib.hid (hs.madeB (p := w.heap.size) (by omega)); have L3 := Lib.hid hl; have D4 := Lib.hid hd.1; have B4 := Lib.hid (B3.out.grown hd.2 (by omega) (fun k e => by injection e with e; omega)); have s4 := hd.2.size; have X1_4 := Lib.hid (X1_3.out.dieB hd); have X2_4 := Lib.hid (X2_3.out.dieB hd); clear hs hl hd)
      | (go_at_call 15; refine (exactly_any _ _ n 8 8 rfl w2 D2.out (by decide)).mono ?_; rintro e w3 ⟨v2, l2, rfl, hs, hl, hd⟩; obtain ⟨A2, c2, hv⟩ : ∃ A c, v2 = .slice A 8 c := (by obtain ⟨a, c, e, _⟩ := hs; rw [hl] at e; exact ⟨a, c, e⟩); subst hv; have X2_3 := Lib.hid (hs.madeB (p := w.heap.size) (by omega)); have L2 := Lib.hid hl; have D3 := Lib.hid hd.1; have B3 := Lib.hid (B2.out.grown hd.2 (by omega) (fun k e => by injection e with e; omega)); have s3 := hd.2.size; have X1_3 := Lib.hid (X1_2.out.dieB hd); clear hs hl hd)
      | (go_at_call 15; refine (exactly_any _ _ n 16 16 rfl w1 D1.out (by decide)).mono ?_; rintro e w2 ⟨v1, l1, rfl, hs, hl, hd⟩; obtain ⟨A1, c1, hv⟩ : ∃ A c, v1 = .slice A 16 c := (by obtain ⟨a, c, e, _⟩ := hs; rw [hl] at e; exact ⟨a, c, e⟩); subst hv; have X1_2 := Lib.hid (hs.madeB (p := w.heap.size) (by omega)); have L1 := Lib.hid hl; have D2 := Lib.hid hd.1; have B2 := Lib.hid (B1.out.grown hd.2 (by omega) (fun k e => by injection e with e; omega)); have s2 := hd.2.size; clear hs hl hd)
      | (go_at_call 7; refine (ask_any _ _ _ _ l1 l2 l3 l4 w5 (HK.out.below B5.out HK.out.lt) X1_5.out.loB X2_5.out.loB X3_5.out.loB X4_5.out.loB).mono ?_; rintro e w6 ⟨v6, rfl, hs, hb⟩; rw [(ask_good L1.out L2.out L3.out L4.out).1]; obtain ⟨A6, c6, hv⟩ : ∃ A c, v6 = .slice A 40 c := (by obtain ⟨a, c, e, _⟩ := hs; rw [ask_len L1.out L2.out L3.out L4.out] at e; exact ⟨a, c, e⟩); subst hv; have X6 : Hid (Bs w6 w6.heap.size (.slice A6 40 c6) (askL l1 l2 l3 l4)) := Lib.hid (hs.keep fun g hg _ => ⟨rfl, hg.2⟩); have X1_6 := Lib.hid (X1_5.out.loB.lift hb); have X2_6 := Lib.hid (X2_5.out.loB.lift hb); have X4_6 := Lib.hid (X4_5.out.loB.lift hb); have B6 := Lib.hid (B5.out.trans (hb.mono B5.out.size)); clear hs hb)
      | (at_builtin; (with_reducible refine wpList_more rfl (.const (.slice none 0 0)) (.tmp 40) rfl w6.heap.size (.slice none 0 0) [] rfl (OwnB.nil _ _) A2 8 c2 l2 (· < w6.heap.size) rfl X2_6.out (by rw [L2.out]; simp) (Nat.le_refl _) ?_); intro v7 w7 hgr; rw [List.nil_append] at hgr; obtain ⟨A7, c7, hv⟩ : ∃ A c, v7 = .slice A l2.length c := hgr.1.form; subst hv; obtain ⟨g, hA, hg1, hg2, hg3, hg4, sc, sf⟩ := hgr.1.slot (by rw [L2.out]; omega); subst hA; rw [L2.out] at hg3; have SC := Lib.hid sc; have SF := Lib.hid sf; have O7 := Lib.hid hgr.1; have BB7 := Lib.hid hgr.2.1; rw [L2.out]; clear hgr sc sf))
    obtain ⟨k, hk⟩ : ∃ k : Nat, a % 8 = k := ⟨(a % 8).toNat, by omega⟩
    obtain ⟨q, hq⟩ : ∃ q : Nat, b % 255 = q := ⟨(b % 255).toNat, by omega⟩
    obtain ⟨u, hu⟩ : ∃ u : UInt8, ofI (1 + (q : Int)) = u := ⟨_, rfl⟩
    have HKA := Lib.hid hk; have HQB := Lib.hid hq; have HU := Lib.hid hu
    have HKN : Hid (k < 8) := Lib.hid (by omega)
    have HK8 : Hid ((k : Int) < 8) := Lib.hid (by omega)
    have HQ5 : Hid ((q : Int) < 255) := Lib.hid (by omega)
    have HUZ : Hid (u ≠ 0) := Lib.hid (by rw [← hu]; exact ofI_ne0 (by omega) (by omega))
    have HG6 : Hid (w6.heap.size ≤ g) := Lib.hid hg1
    have CG : Hid (∀ W, Below w7.heap.size w7 W → W.cell? ⟨g, k, none⟩ = some (U8 (gb l2 k))) := Lib.hid fun W h => (h.cell (p := ⟨g, k, none⟩) hg2).trans (SC.out k (by rw [L2.out]; exact HKN.out))
    have FG : Hid (∀ W, Below w7.heap.size w7 W → W.frozen? ⟨g, k, none⟩ = false) := Lib.hid fun W h => (h.frozen (p := ⟨g, k, none⟩) hg2).trans (SF.out k)
    clear hk hq hu
    refine wp_region_rg 10 [some 42, some 43, some 44, some 45, some 46, some 47, some 48, some 49, some 50, some 51] [[], [], [1], [0, 1, 2], [0, 1, 2, 3], [], [1, 2, 5], [1, 2, 5, 6], [1, 2, 5, 6, 7], [0, 1, 2, 3, 4, 5, 6, 7, 8]]
      (fun _ _ w1 => Below w7.heap.size w7 w1) (fun w1 w2 => Below w1.heap.size w1 w2)
      [fun v _ => v 0 = .slice (some ⟨g, 0, none⟩) 8 c7,
       fun v _ => v 1 = .int .i64 a,
       fun v _ => v 2 = .int .i64 (k : Int),
       fun v _ => v 3 = .pointer (some ⟨g, k, none⟩),
       fun v _ => v 4 = U8 (gb l2 k),
       fun v _ => v 5 = .int .i64 b,
       fun v _ => v 6 = .int .i64 (q : Int),
       fun v _ => v 7 = .int .i64 (1 + (q : Int)),
       fun v _ => v 8 = U8 u,
       fun v _ => v 9 = U8 (gb l2 k ^^^ u)]
      (by kernel_rfl) (by kernel_rfl) (fun _ => (Below.refl _ _).drew) ?st ?steps ?tail
    case st =>
      exact (.cons (fun _ _ _ _ _ _ h => h) (.cons (fun _ _ _ _ _ _ h => h) (.cons (fun _ _ _ _ _ _ h => h) (.cons (fun _ _ _ _ _ _ h => h) (.cons (fun _ _ _ _ _ _ h => h) (.cons (fun _ _ _ _ _ _ h => h) (.cons (fun _ _ _ _ _ _ h => h) (.cons (fun _ _ _ _ _ _ h => h) (.cons (fun _ _ _ _ _ _ h => h) (.cons (fun _ _ _ _ _ _ h => h) .nil))))))))))
    case steps =>
      simp only [List.take_succ_cons, List.take_zero]
      refine (.cons ?_ (.cons ?_ (.cons ?_ (.cons ?_ (.cons ?_ (.cons ?_ (.cons ?_ (.cons ?_ (.cons ?_ (.cons ?_ .nil))))))))))
      all_goals (intro L v w1 hJ hL hA hF K hK; simp only [fillRG, Act.put, Nat.zero_add, Nat.reduceAdd, List.setIfInBounds_toArray, List.set_cons_zero, List.set_cons_succ] at hK ⊢)
      · go_simp
        refine hK _ _ hJ (Below.refl _ _) ?_
        first | exact rfl | exact val_mod _
      · go_simp
        refine hK _ _ hJ (Below.refl _ _) ?_
        first | exact rfl | exact val_mod _
      · have e1 : v 1 = .int .i64 a := hF 1 (hA 1 (by simp))
        simp only [e1] at hK
        go_simp
        refine (mod_any a 8 WA.out (by omega) (by omega) w1).mono ?_
        rintro e w9 ⟨rfl, hw9⟩
        rw [hw9, HKA.out]
        exact hK _ _ hJ (Below.refl _ _) rfl
      · have e0 : v 0 = .slice (some ⟨g, 0, none⟩) 8 c7 := hF 0 (hA 0 (by simp))
        have e2 : v 2 = .int .i64 (k : Int) := hF 2 (hA 2 (by simp))
        have hk8 : (k : Int) < 8 := HK8.out
        simp only [e0, e2] at hK
        go_simp
        refine hK _ _ hJ (Below.refl _ _) ?_
        first | exact rfl | exact val_mod _
      · have e3 : v 3 = .pointer (some ⟨g, k, none⟩) := hF 3 (hA 3 (by simp))
        have c0 := CG.out _ hJ
        simp only [e3] at hK
        go_simp
        refine hK _ _ hJ (Below.refl _ _) ?_
        first | exact rfl | exact val_mod _
      · go_simp
        refine hK _ _ hJ (Below.refl _ _) ?_
        first | exact rfl | exact val_mod _
      · have e5 : v 5 = .int .i64 b := hF 5 (hA 5 (by simp))
        simp only [e5] at hK
        go_simp
        refine (mod_any b 255 WB.out (by omega) (by omega) w1).mono ?_
        rintro e w9 ⟨rfl, hw9⟩
        rw [hw9, HQB.out]
        exact hK _ _ hJ (Below.refl _ _) rfl
      · have e6 : v 6 = .int .i64 (q : Int) := hF 6 (hA 6 (by simp))
        simp only [e6] at hK
        have hq5 := HQ5.out
        go_simp
        refine hK _ _ hJ (Below.refl _ _) ?_
        show Value.int .i64 (IntKind.i64.wrap (1 + (q : Int))) = _
        rw [show IntKind.i64.wrap (1 + (q : Int)) = 1 + (q : Int) by simp [IntKind.wrap, IntKind.bits, IntKind.signed]; omega]
      · have e7 : v 7 = .int .i64 (1 + (q : Int)) := hF 7 (hA 7 (by simp))
        simp only [e7] at hK
        go_simp
        refine hK _ _ hJ (Below.refl _ _) ?_
        show Value.int .u8 (IntKind.u8.wrap (1 + (q : Int))) = U8 u
        rw [← HU.out, ← val_mod]
        rfl
      · have e4 : v 4 = U8 (gb l2 k) := hF 4 (hA 4 (by simp))
        have e8 : v 8 = U8 u := hF 8 (hA 8 (by simp))
        simp only [e4, e8] at hK
        go_simp
        refine hK _ _ hJ (Below.refl _ _) ?_
        first | exact rfl | exact val_mod _
    case tail =>
      intro v w1 hJ hF
      have e0 : v 0 = .slice (some ⟨g, 0, none⟩) 8 c7 := hF 0 (by simp)
      have e1 : v 1 = .int .i64 a := hF 1 (by simp)
      have e2 : v 2 = .int .i64 (k : Int) := hF 2 (by simp)
      have e3 : v 3 = .pointer (some ⟨g, k, none⟩) := hF 3 (by simp)
      have e4 : v 4 = U8 (gb l2 k) := hF 4 (by simp)
      have e5 : v 5 = .int .i64 b := hF 5 (by simp)
      have e6 : v 6 = .int .i64 (q : Int) := hF 6 (by simp)
      have e7 : v 7 = .int .i64 (1 + (q : Int)) := hF 7 (by simp)
      have e8 : v 8 = U8 u := hF 8 (by simp)
      have e9 : v 9 = U8 (gb l2 k ^^^ u) := hF 9 (by simp)
      simp only [List.drop_succ_cons, List.drop_zero, fillRG, Act.put, Nat.zero_add, Nat.reduceAdd, List.setIfInBounds_toArray, List.set_cons_zero, List.set_cons_succ]
      have HJ := Lib.hid hJ
      have c0 := CG.out _ hJ
      have f0 := FG.out _ hJ
      simp only [e0, e2, e9]
      have hk8 : (k : Int) < 8 := HK8.out
      clear hJ hF e0 e1 e2 e3 e4 e5 e6 e7 e8 e9
      go_upto_region 8 with fail
      have X7 : Hid (Bs w1 w1.heap.size (.slice (some ⟨g, 0, none⟩) l2.length c7) l2) := Lib.hid (bs_later (O7.out.bs (by rw [L2.out]; omega)) (fun _ h => h) HJ.out)
      obtain ⟨w8, hw8⟩ : ∃ w8, w8 = w1.setCell ⟨g, k, none⟩ (U8 (gb l2 k ^^^ u)) := ⟨_, rfl⟩
      rw [← hw8]
      have X8 : Hid (Bs w8 w8.heap.size (.slice (some ⟨g, 0, none⟩) 8 c7) (l2.set k (gb l2 k ^^^ u))) := Lib.hid (by
        have h := X7.out.set (k := k) (by rw [L2.out]; exact HKN.out) (gb l2 k ^^^ u)
        rw [← hw8, L2.out] at h
        exact h.keep fun _ hg _ => ⟨rfl, by rw [hw8]; simpa using hg⟩)
      have BB8 : Hid (Below w6.heap.size w6 w8) := Lib.hid (by rw [hw8]; exact (BB7.out.trans (HJ.out.mono BB7.out.size)).setCell (p := ⟨g, k, none⟩) HG6.out _)
      have HN8 : Hid ((l2.set k (gb l2 k ^^^ u)) ≠ l2) := Lib.hid (turned_ne (by rw [L2.out]; exact HKN.out) HUZ.out)
      have HL8 : Hid ((l2.set k (gb l2 k ^^^ u)).length = 8) := Lib.hid (by rw [List.length_set]; exact L2.out)
      clear hw8 HJ c0 f0
      go_wp2_with (first
        | (go_at_call 19; refine (answer_any _ _ _ _ l1 (l2.set k (gb l2 k ^^^ u)) l4 (askL l1 l2 l3 l4) w8 (HK.out.below (B6.out.trans (BB8.out.mono B6.out.size)) HK.out.lt) (X1_6.out.lift BB8.out) X8.out (X4_6.out.lift BB8.out) (X6.out.lift BB8.out)).mono ?_; rw [answer_other L1.out L2.out L3.out L4.out L4.out HL8.out HN8.out]; rintro e w9 ⟨v9, s9, rfl, ho, ⟨y1, y2, rfl, h1, h2⟩, hb⟩; obtain ⟨A9, c9, hv⟩ : ∃ A c, v9 = .slice A 0 c := (by obtain ⟨a, c, e, _⟩ := ho; exact ⟨a, c, e⟩); obtain ⟨X1, x1, hv1⟩ : ∃ A c, y1 = .slice A 0 c := (by obtain ⟨a, c, e, _⟩ := h1; exact ⟨a, c, e⟩); obtain ⟨X2, x2, hv2⟩ : ∃ A c, y2 = .slice A 0 c := (by obtain ⟨a, c, e, _⟩ := h2; exact ⟨a, c, e⟩); subst hv; subst hv1; subst hv2; obtain ⟨n0, n1, n2, nf⟩ := sess3 (fresh_row w9); have nf0 := nf 0; have nf1 := nf 1; have nf2 := nf 2; clear nf; have B9 := Lib.hid ((B6.out.trans (BB8.out.mono B6.out.size)).trans (hb.mono (by have := B6.out.size; have := BB8.out.size; omega))); clear ho h1 h2 hb)
        | (go_at_call 10; refine (awakeB_any _ (HK.out.below (below_fill B9.out) HK.out.lt)).mono ?_; rintro e wa ⟨rfl, hb⟩; have BA := Lib.hid ((below_fill B9.out).trans (hb.mono (below_fill B9.out).size)); have hz := (hb.block w9.heap.size (fill_lt w9 _ _ _)).trans (fill_row w9 _ _ _); obtain ⟨z0, z1, z2, _⟩ := sess3 hz; clear hb hz))
      go_ret
      exact ⟨rfl, BA.out⟩
  · have hn1 : decide ((n : Int) ≤ 400) = false := decide_eq_false hn
    rw [hn1] at HL
    clear hn hn1
    go_enter Tryd.func6, Tryd.ntmps6
    go_wp2_with (first
      | (go_at_call 13; refine HL.out.mono ?_; rintro e w' ⟨rfl, hw'⟩; rw [hw']; clear hw' w')
      | (go_at_call 10; refine (awakeB_any _ HK.out).mono ?_; rintro e w1 ⟨rfl, hb⟩; have HB := Lib.hid hb; clear hb))
    go_ret
    exact ⟨rfl, HB.out⟩
end Go.Proofs.YtjbmmdcnccclaaaDoor
