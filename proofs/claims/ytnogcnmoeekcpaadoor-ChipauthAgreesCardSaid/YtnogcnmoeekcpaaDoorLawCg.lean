/- Layer 23: ChipauthAgrees. -/
import Derived.Test.YtnogcnmoeekcpaaDoorChi4
import Derived.Test.YtnogcnmoeekcpaaDoorReg
namespace Go.Proofs.YtnogcnmoeekcpaaDoor
open Go.RowKit Go.Deep

/-- One bit. -/
def bitU (q : Nat) : UInt8 := ofI ((2 ^ q : Nat) : Int)
theorem bitU_ne {q : Nat} (h : q < 8) : bitU q ≠ 0 := by
  obtain rfl | rfl | rfl | rfl | rfl | rfl | rfl | rfl : q = 0 ∨ q = 1 ∨ q = 2 ∨ q = 3 ∨ q = 4 ∨ q = 5 ∨ q = 6 ∨ q = 7 := by omega
  all_goals decide
theorem turned_other {l : List UInt8} {k : Nat} {u : UInt8} (hk : k < l.length) (hu : u ≠ 0) : l.set k (gb l k ^^^ u) ≠ l := by
  intro h
  have h1 := congrArg (fun x => gb x k) h
  simp only [gb, List.getD_eq_getElem?_getD] at h1
  rw [List.getElem?_set_self hk, List.getElem?_eq_getElem hk] at h1
  simp only [Option.getD_some] at h1
  exact hu (by
    have h2 : l[k] ^^^ (l[k] ^^^ u) = l[k] ^^^ l[k] := by rw [h1]
    rw [← UInt8.xor_assoc, UInt8.xor_self, UInt8.zero_xor] at h2
    exact h2)
set_option maxRecDepth 100000 in
set_option maxHeartbeats 8000000 in
theorem chipauthAgrees_law (a : Int) (wa : (Lit.int .i64 a).wf = true) (b : Int) (wb : (Lit.int .i64 b).wf = true) (c : Int) (wc : (Lit.int .i64 c).wf = true) (d : Int) (wd : (Lit.int .i64 d).wf = true) (f : Int) (wf : (Lit.int .i64 f).wf = true) (w : World) (hK : KD w) :
    Calls Tryd.prog 5 #[.int .i64 a, .int .i64 b, .int .i64 c, .int .i64 d, .int .i64 f] w fun e w' => e = .returned (.bool true) ∧ Below w.heap.size w w' := by
  have hs5 := msecret_any a (wf_i64' wa)
  have hs9 := msecret_any b (wf_i64' wb)
  have hn := mnonce_any c (wf_i64' wc)
  have WD : Hid (I64in d) := Lib.hid (wf_i64' wd)
  have WF : Hid (I64in f) := Lib.hid (wf_i64' wf)
  obtain ⟨N, hN⟩ : ∃ N, nonceL c 8 = N := ⟨_, rfl⟩
  have hl : N.length = 8 := by rw [← hN]; exact nonceL_len c 8
  obtain ⟨x, hx⟩ : ∃ x, msecW a = x := ⟨_, rfl⟩
  obtain ⟨z, hz⟩ : ∃ z, msecW b = z := ⟨_, rfl⟩
  have ia := msecW_in a
  have ib := msecW_in b
  rw [hx] at hs5 ia
  rw [hz] at hs9 ib
  rw [hN] at hn
  have hr := reply_agree x z ia ib N hl
  have hc := fun t => check_agree x z ia ib N t hl
  have tl := tokW_len x z N
  have l1 := keyW_len (secW (shareZ x z : Nat) N) 1
  have l2 := keyW_len (secW (shareZ x z : Nat) N) 2
  obtain ⟨T, hT⟩ : ∃ T, tokW x z N = T := ⟨_, rfl⟩
  obtain ⟨K1, hK1⟩ : ∃ K, keyW (secW (shareZ x z : Nat) N) 1 = K := ⟨_, rfl⟩
  obtain ⟨K2, hK2⟩ : ∃ K, keyW (secW (shareZ x z : Nat) N) 2 = K := ⟨_, rfl⟩
  obtain ⟨p, hp⟩ : ∃ p, gpw 64 1 4 x = p := ⟨_, rfl⟩
  obtain ⟨y, hy⟩ : ∃ y, gpw 64 1 4 z = y := ⟨_, rfl⟩
  rw [hp] at hs5 hc
  rw [hy] at hs9 hr
  rw [hT, hK1, hK2] at hr hc
  rw [hT] at tl
  rw [hK1] at l1
  rw [hK2] at l2
  obtain ⟨k, hk⟩ : ∃ k : Nat, d % 8 = k := ⟨(d % 8).toNat, by omega⟩
  obtain ⟨q, hq⟩ : ∃ q : Nat, f % 8 = q := ⟨(f % 8).toNat, by omega⟩
  have HKA := Lib.hid hk; have HQB := Lib.hid hq
  have HK8 : Hid ((k : Int) < 8) := Lib.hid (by omega)
  have HQ8 : Hid ((q : Int) < 8) := Lib.hid (by omega)
  obtain ⟨TT, hTT⟩ : ∃ t, T.set k (gb T k ^^^ bitU q) = t := ⟨_, rfl⟩
  have hne : TT ≠ T := by rw [← hTT]; exact turned_other (by omega) (bitU_ne (by omega))
  have ttl : TT.length = 8 := by rw [← hTT, List.length_set]; exact tl
  have HC : Hid (checkW (p : Nat) z N T = (true, K1, K2, 0)) := Lib.hid (by rw [hc, if_pos rfl])
  have HC2 : Hid (checkW (p : Nat) z N TT = (false, [], [], 0)) := Lib.hid (by rw [hc, if_neg (fun h => hne h.symm)])
  have HC3 : Hid (checkW (p : Nat) z N (TT.take k) = (false, [], [], 0)) := Lib.hid (by
    rw [hc, if_neg (fun h => by
      have := congrArg List.length h
      rw [tl, List.length_take, ttl] at this
      omega)])
  have HS5 := Lib.hid hs5; have HS9 := Lib.hid hs9; have HN := Lib.hid hn; have HR := Lib.hid hr; have TL := Lib.hid tl; have L1 := Lib.hid l1; have L2 := Lib.hid l2; have HK := Lib.hid hK; have HTT := Lib.hid hTT; have TTL := Lib.hid ttl; have NL := Lib.hid hl
  clear hs5 hs9 hn hr hc tl l1 l2 hK hN hl hx hz ia ib hT hK1 hK2 hp hy hk hq hTT hne ttl wa wb wc wd wf
  go_enter Tryd.func5, Tryd.ntmps5
  go_upto_region 8 with (first
    | (go_at_call 10; have hbf : Below w4.heap.size w4 (fillS w4 (.slice y1 16 yc1) (.slice y2 16 yc2) (.int .i64 0)) := below_fillS w4 _ _ _; have V5 := Lib.hid (V4.out.on hbf); refine (csame_any _ _ K1 K2 K1 K2 0 0 _ _ (fillS w4 (.slice y1 16 yc1) (.slice y2 16 yc2) (.int .i64 0)) ⟨_, _, rfl, V5.out.at 4 rfl, V5.out.at 3 rfl⟩ ⟨_, _, rfl, V5.out.at 1 rfl, V5.out.at 0 rfl⟩).mono ?_; rintro e w5 ⟨rfl, hb0⟩; rw [decide_eq_true (show K1 = K1 ∧ K2 = K2 ∧ (0 : Int) = 0 from ⟨rfl, rfl, rfl⟩)]; have hb := hbf.trans (hb0.mono hbf.size); have B5 := Lib.hid (B4.out.trans (hb.mono B4.out.size)); have D5 := Lib.hid (D4.out.trans (hb.mono D4.out.size)); have O5 := Lib.hid (O4.out.on hb); clear z0 z1 z2 n0 n1 n2 nf0 nf1 nf2; obtain ⟨z0, z1, z2, _⟩ := sess3 ((hb.block _ (Array.getElem?_eq_some_iff.1 X4.out).1).trans X4.out); clear hb hb0 hbf)
    | (go_at_call 11; have hbf : Below w2.heap.size w2 (fillS w2 (.slice x1 16 xc1) (.slice x2 16 xc2) (.int .i64 0)) := below_fillS w2 _ _ _; refine (ccheck_any _ _ _ _ N T (fillS w2 (.slice x1 16 xc1) (.slice x2 16 xc2) (.int .i64 0)) (HK.out.below (B2.out.trans (hbf.mono B2.out.size)) HK.out.lt) ((V2.out.on hbf).at 3 rfl) ((V2.out.on hbf).at 0 rfl)).mono ?_; rw [HC.out]; rintro e w4 ⟨s4, rfl, ⟨P1, P2, rfl, h1, h2⟩, hb0⟩; have hb := hbf.trans (hb0.mono hbf.size); obtain ⟨y1, yc1, hp⟩ : ∃ A c, P1 = .slice A 16 c := (by obtain ⟨a, c, e, _⟩ := h1; rw [L1.out] at e; exact ⟨a, c, e⟩); subst hp; obtain ⟨y2, yc2, hp⟩ : ∃ A c, P2 = .slice A 16 c := (by obtain ⟨a, c, e, _⟩ := h2; rw [L2.out] at e; exact ⟨a, c, e⟩); subst hp; have V4 := Lib.hid (((V2.out.on hb).new h1).new h2); have D4 := Lib.hid (D2.out.trans (hb.mono D2.out.size)); have B4 := Lib.hid (B2.out.trans (hb.mono B2.out.size)); have X4 : Hid (w4.heap[w2.heap.size]? = some (.cells #[.slice x1 16 xc1, .slice x2 16 xc2, .int .i64 0] 25 (0, 0))) := Lib.hid ((hb0.block _ (fill_lt w2 _ _ _)).trans (fill_row w2 (.slice x1 16 xc1) (.slice x2 16 xc2) (.int .i64 0))); have O4 := Lib.hid (O2.out.on hb); clear n0 n1 n2 nf0 nf1 nf2; obtain ⟨n0, n1, n2, nf⟩ := sess3 (fresh_row w4); have nf0 := nf 0; have nf1 := nf 1; have nf2 := nf 2; clear nf; obtain ⟨z0, z1, z2, _⟩ := sess3 (((below_fillS w4 (.slice y1 16 yc1) (.slice y2 16 yc2) (.int .i64 0)).block _ (Array.getElem?_eq_some_iff.1 X4.out).1).trans X4.out); clear h1 h2 hb hb0 hbf)
    | (go_at_call 8; refine (creply_any _ _ _ N w1 (HK.out.below B1.out HK.out.lt) (V1.out.at 0 rfl)).mono ?_; rw [HR.out]; rintro e w2 ⟨P0, s2, rfl, hv, ho, ⟨P1, P2, rfl, h1, h2⟩, hb⟩; have ho := ho rfl rfl; obtain ⟨g2, k2, hp, _⟩ := id ho; rw [TL.out] at hp; subst hp; obtain ⟨x1, xc1, hp⟩ : ∃ A c, P1 = .slice A 16 c := (by obtain ⟨a, c, e, _⟩ := h1; rw [L1.out] at e; exact ⟨a, c, e⟩); subst hp; obtain ⟨x2, xc2, hp⟩ : ∃ A c, P2 = .slice A 16 c := (by obtain ⟨a, c, e, _⟩ := h2; rw [L2.out] at e; exact ⟨a, c, e⟩); subst hp; have O2 := Lib.hid ho; have D2 := Lib.hid hb; have V2 := Lib.hid ((((V1.out.on hb).new h1).new h2).add (S := (· < w2.heap.size)) (fun _ h => h) hv); have B2 := Lib.hid (B1.out.trans (hb.mono B1.out.size)); obtain ⟨n0, n1, n2, nf⟩ := sess3 (fresh_row w2); have nf0 := nf 0; have nf1 := nf 1; have nf2 := nf 2; clear nf; clear hv ho h1 h2 hb)
    | (go_at_call 14; refine (HN.out w).mono ?_; rintro e w1 ⟨v1, rfl, hs, hb⟩; obtain ⟨nA, nc, hp⟩ : ∃ A c, v1 = .slice A 8 c := (by obtain ⟨a, c, e, _⟩ := hs; rw [NL.out] at e; exact ⟨a, c, e⟩); subst hp; have V1 := Lib.hid (VW.nil.new hs); have B1 := Lib.hid hb; clear hs hb)
    | (go_at_call 13; have M2 := M1; refine (HS9.out _).mono ?_; rintro e w' ⟨rfl, hw'⟩; rw [hw']; clear hw' w')
    | (go_at_call 13; refine (HS5.out _).mono ?_; rintro e w' ⟨rfl, hw'⟩; rw [hw']; clear hw' w'; have M1 : Hid True := Lib.hid trivial))
  have NB : Hid (Bs w1 w1.heap.size (.slice nA 8 nc) N) := Lib.hid (V1.out.at 0 rfl)
  have G2 : Hid (w1.heap.size ≤ g2 ∧ g2 < w5.heap.size ∧ 8 ≤ k2) := Lib.hid (by obtain ⟨g, c, e, h1, h2, h3, _⟩ := O5.out; injection e with e _ e3; injection e with e; injection e with e; subst e; subst e3; rw [TL.out] at h3; exact ⟨h1, h2, h3⟩)
  have HKC : Hid ((k : Int) ≤ k2 ∧ k ≤ k2) := Lib.hid (by have := HK8.out; have := G2.out.2.2; omega)
  have CG : Hid (∀ W, Below w5.heap.size w5 W → W.cell? ⟨g2, k, none⟩ = some (U8 (gb T k))) := Lib.hid fun W h => by
    obtain ⟨g, c, e, h1, h2, h3, h4, h5, h6⟩ := O5.out.on h
    injection e with e _ e3; injection e with e; injection e with e; subst e
    exact h5 k (by rw [TL.out]; have := HK8.out; omega)
  have FG : Hid (∀ W, Below w5.heap.size w5 W → W.frozen? ⟨g2, k, none⟩ = false) := Lib.hid fun W h => by
    obtain ⟨g, c, e, h1, h2, h3, h4, h5, h6⟩ := O5.out.on h
    injection e with e _ e3; injection e with e; injection e with e; subst e
    exact h6 k
  refine wp_region_rg 10 [some 75, some 76, some 77, some 78, some 79, some 80, some 81, some 82, some 83, some 84] [[], [], [1], [0, 1, 2], [0, 1, 2, 3], [], [1, 2, 5], [1, 2, 5, 6], [1, 2, 5, 6, 7], [0, 1, 2, 3, 4, 5, 6, 7, 8]]
    (fun _ _ w1 => Below w5.heap.size w5 w1) (fun w1 w2 => Below w1.heap.size w1 w2)
    [fun v _ => v 0 = .slice (some ⟨g2, 0, none⟩) 8 k2,
     fun v _ => v 1 = .int .i64 d,
     fun v _ => v 2 = .int .i64 (k : Int),
     fun v _ => v 3 = .pointer (some ⟨g2, k, none⟩),
     fun v _ => v 4 = U8 (gb T k),
     fun v _ => v 5 = .int .i64 f,
     fun v _ => v 6 = .int .i64 (q : Int),
     fun v _ => v 7 = .int .u64 (q : Int),
     fun v _ => v 8 = U8 (bitU q),
     fun v _ => v 9 = U8 (gb T k ^^^ bitU q)]
    (by kernel_rfl) (by kernel_rfl) (fun _ => (Below.refl _ _).drew) ?st ?steps ?tail
  case st =>
    exact (.cons (fun _ _ _ _ _ _ h => h) (.cons (fun _ _ _ _ _ _ h => h) (.cons (fun _ _ _ _ _ _ h => h) (.cons (fun _ _ _ _ _ _ h => h) (.cons (fun _ _ _ _ _ _ h => h) (.cons (fun _ _ _ _ _ _ h => h) (.cons (fun _ _ _ _ _ _ h => h) (.cons (fun _ _ _ _ _ _ h => h) (.cons (fun _ _ _ _ _ _ h => h) (.cons (fun _ _ _ _ _ _ h => h) .nil))))))))))
  case steps =>
    simp only [List.take_succ_cons, List.take_zero]
    refine (.cons ?_ (.cons ?_ (.cons ?_ (.cons ?_ (.cons ?_ (.cons ?_ (.cons ?_ (.cons ?_ (.cons ?_ (.cons ?_ .nil))))))))))
    all_goals (intro L v w1 hJ hL hA hF K hK; simp only [fillRG, Act.put, Nat.zero_add, Nat.reduceAdd, List.setIfInBounds_toArray, List.set_cons_zero, List.set_cons_succ] at hK ⊢)
    · go_simp
      refine hK _ _ hJ (Below.refl _ _) ?_
      first | exact rfl | exact val_mod _
    · go_simp
      refine hK _ _ hJ (Below.refl _ _) ?_
      first | exact rfl | exact val_mod _
    · have e1 : v 1 = .int .i64 d := hF 1 (hA 1 (by simp))
      simp only [e1] at hK
      go_simp
      refine (mmod_any d 8 WD.out (by decide) (by decide) w1).mono ?_
      rintro e w9 ⟨rfl, hw9⟩
      rw [hw9, HKA.out]
      exact hK _ _ hJ (Below.refl _ _) rfl
    · have e0 : v 0 = .slice (some ⟨g2, 0, none⟩) 8 k2 := hF 0 (hA 0 (by simp))
      have e2 : v 2 = .int .i64 (k : Int) := hF 2 (hA 2 (by simp))
      have hk8 : (k : Int) < 8 := HK8.out
      simp only [e0, e2] at hK
      go_simp
      refine hK _ _ hJ (Below.refl _ _) ?_
      first | exact rfl | exact val_mod _
    · have e3 : v 3 = .pointer (some ⟨g2, k, none⟩) := hF 3 (hA 3 (by simp))
      have c0 := CG.out _ hJ
      simp only [e3] at hK
      go_simp
      refine hK _ _ hJ (Below.refl _ _) ?_
      first | exact rfl | exact val_mod _
    · go_simp
      refine hK _ _ hJ (Below.refl _ _) ?_
      first | exact rfl | exact val_mod _
    · have e5 : v 5 = .int .i64 f := hF 5 (hA 5 (by simp))
      simp only [e5] at hK
      go_simp
      refine (mmod_any f 8 WF.out (by decide) (by decide) w1).mono ?_
      rintro e w9 ⟨rfl, hw9⟩
      rw [hw9, HQB.out]
      exact hK _ _ hJ (Below.refl _ _) rfl
    · have e6 : v 6 = .int .i64 (q : Int) := hF 6 (hA 6 (by simp))
      simp only [e6] at hK
      have hq8 : (q : Int) < 8 := HQ8.out
      go_simp
      refine hK _ _ hJ (Below.refl _ _) ?_
      show Value.int .u64 (IntKind.u64.wrap (q : Int)) = _
      rw [show IntKind.u64.wrap (q : Int) = (q : Int) by simp [IntKind.wrap, IntKind.bits, IntKind.signed]; omega]
    · have e7 : v 7 = .int .u64 (q : Int) := hF 7 (hA 7 (by simp))
      simp only [e7] at hK
      have hq8 : (q : Int) < 8 := HQ8.out
      obtain rfl | rfl | rfl | rfl | rfl | rfl | rfl | rfl : q = 0 ∨ q = 1 ∨ q = 2 ∨ q = 3 ∨ q = 4 ∨ q = 5 ∨ q = 6 ∨ q = 7 := by omega
      all_goals (go_simp; exact hK _ _ hJ (Below.refl _ _) rfl)
    · have e4 : v 4 = U8 (gb T k) := hF 4 (hA 4 (by simp))
      have e8 : v 8 = U8 (bitU q) := hF 8 (hA 8 (by simp))
      simp only [e4, e8] at hK
      go_simp
      refine hK _ _ hJ (Below.refl _ _) ?_
      first | exact rfl | exact val_mod _
  case tail =>
    intro v w1 hJ hF
    have e0 : v 0 = .slice (some ⟨g2, 0, none⟩) 8 k2 := hF 0 (by simp)
    have e1 : v 1 = .int .i64 d := hF 1 (by simp)
    have e2 : v 2 = .int .i64 (k : Int) := hF 2 (by simp)
    have e3 : v 3 = .pointer (some ⟨g2, k, none⟩) := hF 3 (by simp)
    have e4 : v 4 = U8 (gb T k) := hF 4 (by simp)
    have e5 : v 5 = .int .i64 f := hF 5 (by simp)
    have e6 : v 6 = .int .i64 (q : Int) := hF 6 (by simp)
    have e7 : v 7 = .int .u64 (q : Int) := hF 7 (by simp)
    have e8 : v 8 = U8 (bitU q) := hF 8 (by simp)
    have e9 : v 9 = U8 (gb T k ^^^ bitU q) := hF 9 (by simp)
    simp only [List.drop_succ_cons, List.drop_zero, fillRG, Act.put, Nat.zero_add, Nat.reduceAdd, List.setIfInBounds_toArray, List.set_cons_zero, List.set_cons_succ]
    have HJ := Lib.hid hJ
    have c0 := CG.out _ hJ
    have f0 := FG.out _ hJ
    simp only [e0, e2, e9]
    have hk8 : (k : Int) < 8 := HK8.out
    clear hJ hF e0 e1 e2 e3 e4 e5 e6 e7 e8 e9
    go_upto_region 9 with fail
    have X6 : Hid (Bs w1 w1.heap.size (.slice (some ⟨g2, 0, none⟩) 8 k2) T) := Lib.hid ((OwnS.wide (O5.out.on HJ.out) B1.out.size).bs (w0 := w) (by rw [TL.out]; omega) |>.keep fun _ hg _ => ⟨rfl, hg.2⟩)
    obtain ⟨w7, hw7⟩ : ∃ w7, w7 = w1.setCell ⟨g2, k, none⟩ (U8 (gb T k ^^^ bitU q)) := ⟨_, rfl⟩
    rw [← hw7]
    have T7 : Hid (Bs w7 w7.heap.size (.slice (some ⟨g2, 0, none⟩) 8 k2) TT) := Lib.hid (by
        have h := BsS.set0 (l := T) (c := k2) (g := g2) (k := k) (by rw [TL.out]; exact X6.out) (by rw [TL.out]; have := HK8.out; omega) (gb T k ^^^ bitU q)
        rw [← hw7, HTT.out, TL.out] at h
        exact h.keep fun _ hg _ => ⟨rfl, by rw [hw7]; simpa using hg⟩)
    have N7 : Hid (Bs w7 w7.heap.size (.slice nA 8 nc) N) := Lib.hid (BsS.keep NB.out fun g hg hl => ⟨by rw [hw7]; exact (Below.heap_setCell _ _ _ _ (by have := G2.out.1; intro h; subst h; omega)).trans ((D5.out.trans (HJ.out.mono D5.out.size)).block g hg), by rw [hw7]; have := D5.out.size; have := HJ.out.size; simp; omega⟩)
    have B7 : Hid (Below w.heap.size w w7) := Lib.hid (by rw [hw7]; exact (B5.out.trans (HJ.out.mono B5.out.size)).setCell (p := ⟨g2, k, none⟩) (Nat.le_trans B1.out.size G2.out.1) _)
    clear hw7 HJ c0 f0 z0 z1 z2
    go_wp2_with (first
      | (go_at_call 7; refine (awakeC_any _ (HK.out.below B9.out HK.out.lt)).mono ?_; rintro e w10 ⟨rfl, hb⟩; have B10 := Lib.hid (B9.out.trans (hb.mono B9.out.size)); clear hb)
      | (go_at_call 11; have M8 := B8; refine (ccheck_any _ _ _ _ N (TT.take k) _ (HK.out.below B8.out HK.out.lt) N8.out (Bs.cutTo T8.out k (by rw [TTL.out]; have := HK8.out; omega))).mono ?_; rw [HC3.out]; rintro e w9 ⟨s9, rfl, ⟨P1, P2, rfl, h1, h2⟩, hb⟩; obtain ⟨u1, un1, uc1, hp⟩ := h1.form; subst hp; obtain ⟨u2, un2, uc2, hp⟩ := h2.form; subst hp; have hbf : Below w9.heap.size w9 (fillS w9 (.slice u1 un1 uc1) (.slice u2 un2 uc2) (.int .i64 0)) := below_fillS w9 _ _ _; have hb := hb.trans (hbf.mono hb.size); have B9 := Lib.hid (B8.out.trans (hb.mono B8.out.size)); clear n0 n1 n2 nf0 nf1 nf2; obtain ⟨n0, n1, n2, nf⟩ := sess3 (fresh_row w9); have nf0 := nf 0; have nf1 := nf 1; have nf2 := nf 2; clear nf; clear h1 h2 hb hbf)
      | (go_at_call 15; have M8 := B8; refine (mmod_any d 8 WD.out (by decide) (by decide) _).mono ?_; rintro e w' ⟨rfl, hw'⟩; rw [hw', HKA.out]; have hk8 : (k : Int) < 8 := HK8.out; have hkk : (k : Int) ≤ k2 := HKC.out.1; have hkk2 : k ≤ k2 := HKC.out.2; clear hw' w')
      | (go_at_call 11; refine (ccheck_any _ _ _ _ N TT w7 (HK.out.below B7.out HK.out.lt) N7.out T7.out).mono ?_; rw [HC2.out]; rintro e w8 ⟨s8, rfl, ⟨P1, P2, rfl, h1, h2⟩, hb⟩; obtain ⟨r1, rn1, rc1, hp⟩ := h1.form; subst hp; obtain ⟨r2, rn2, rc2, hp⟩ := h2.form; subst hp; have hbf : Below w8.heap.size w8 (fillS w8 (.slice r1 rn1 rc1) (.slice r2 rn2 rc2) (.int .i64 0)) := below_fillS w8 _ _ _; have hb := hb.trans (hbf.mono hb.size); have N8 := Lib.hid (N7.out.lift hb); have T8 := Lib.hid (T7.out.lift hb); have B8 := Lib.hid (B7.out.trans (hb.mono B7.out.size)); obtain ⟨n0, n1, n2, nf⟩ := sess3 (fresh_row w8); have nf0 := nf 0; have nf1 := nf 1; have nf2 := nf 2; clear nf; clear h1 h2 hb hbf))
    go_ret
    exact ⟨rfl, B10.out⟩
end Go.Proofs.YtnogcnmoeekcpaaDoor
