/- Chip authentication: equal sessions, the plain law of both sides, awake. -/
import Derived.Test.YtnogcnmoeekcpaaDoorChi3
import Derived.Test.YtnogcnmoeekcpaaDoorMill
import Derived.Test.YtnogcnmoeekcpaaDoorQByteEq
namespace Go.Proofs.YtnogcnmoeekcpaaDoor
open Go.RowKit Go.Deep

/-- Values of bytes, each readable. -/
def VW (w : World) (L : List (Value × List UInt8)) : Prop := ∀ x ∈ L, Bs w w.heap.size x.1 x.2
theorem VW.nil {w : World} : VW w [] := fun _ h => by simp at h
theorem VW.on {w wq : World} {L : List (Value × List UInt8)} (h : VW w L) (hb : Below w.heap.size w wq) : VW wq L := fun x hx => (h x hx).lift hb
theorem VW.add {w : World} {L : List (Value × List UInt8)} (h : VW w L) {v : Value} {l : List UInt8} {S : Nat → Prop} (hS : ∀ b, S b → b < w.heap.size) (hv : BsS w S v l) : VW w ((v, l) :: L) := fun x hx => by
  rcases List.mem_cons.1 hx with rfl | hx
  · exact BsS.keep hv fun g hs _ => ⟨rfl, hS g hs⟩
  · exact h x hx
theorem VW.new {w w0 : World} {L : List (Value × List UInt8)} (h : VW w L) {v : Value} {l : List UInt8} (hv : BsS w (New w0 w) v l) : VW w ((v, l) :: L) := h.add (fun _ h => h.2) hv
theorem VW.at {w : World} {L : List (Value × List UInt8)} (h : VW w L) (i : Nat) {v : Value} {l : List UInt8} (hi : L[i]? = some (v, l)) : Bs w w.heap.size v l := h (v, l) (List.mem_of_getElem? hi)
theorem beq_of {a b : List UInt8} {o : Bool} (h : decide (a = b) = o) : (a == b) = o := by rw [← h, Bool.eq_iff_iff]; simp
set_option maxRecDepth 100000 in
set_option maxHeartbeats 2000000 in
theorem csame_any (va vb : Value) (a1 a2 b1 b2 : List UInt8) (n m : Int) (S S' : Nat → Prop) (w : World) (ha : SessL w S va a1 a2 n) (hb : SessL w S' vb b1 b2 m) :
    Calls Tryd.prog 10 #[va, vb] w fun e w' => e = .returned (.bool (decide (a1 = b1 ∧ a2 = b2 ∧ n = m))) ∧ Below w.heap.size w w' := by
  obtain ⟨u1, u2, rfl, h1, h2⟩ := ha
  obtain ⟨t1, t2, rfl, k1, k2⟩ := hb
  obtain ⟨p1, q1, r1, rfl⟩ := h1.form
  obtain ⟨p2, q2, r2, rfl⟩ := h2.form
  obtain ⟨p3, q3, r3, rfl⟩ := k1.form
  obtain ⟨p4, q4, r4, rfl⟩ := k2.form
  obtain ⟨w1, hw1⟩ : ∃ w1, w1 = w.alloc (.cells #[.slice p1 q1 r1, .slice p2 q2 r2, .int .i64 n] 25) := ⟨_, rfl⟩
  obtain ⟨w2, hw2⟩ : ∃ w2, w2 = w1.alloc (.cells #[.slice p3 q3 r3, .slice p4 q4 r4, .int .i64 m] 25) := ⟨_, rfl⟩
  have hz1 : w1.heap.size = w.heap.size + 1 := by rw [hw1]; simp
  have hB1 : Below w.heap.size w w1 := by rw [hw1]; exact (Below.refl _ _).alloc (Nat.le_refl _) _
  have hB2 : Below w1.heap.size w1 w2 := by rw [hw2]; exact (Below.refl _ _).alloc (Nat.le_refl _) _
  have hh1 : w1.heap[w.heap.size]? = some (.cells #[.slice p1 q1 r1, .slice p2 q2 r2, .int .i64 n] 25 (0, 0)) := by rw [hw1]; exact heap_alloc_new _ _
  have hh2 : w2.heap[w1.heap.size]? = some (.cells #[.slice p3 q3 r3, .slice p4 q4 r4, .int .i64 m] 25 (0, 0)) := by rw [hw2]; exact heap_alloc_new _ _
  rw [hz1] at hh2
  have hB : Below w.heap.size w w2 := hB1.trans (hB2.mono hB1.size)
  obtain ⟨x0, x1, x2, _⟩ := sess3 ((hB2.block w.heap.size (by omega)).trans hh1)
  obtain ⟨y0, y1, y2, _⟩ := sess3 hh2
  have ol : ∀ {S : Nat → Prop} {v : Value} {l : List UInt8}, BsS w S v l → BsS w2 (fun _ => True) v l := fun h => BsS.keep h fun g _ hl => ⟨hB.block g hl, trivial⟩
  have s1 := str_run (ol h1)
  have s2 := str_run (ol h2)
  have s3 := str_run (ol k1)
  have s4 := str_run (ol k2)
  have HB := Lib.hid hB
  have HW1 := Lib.hid hw1; have HW2 := Lib.hid hw2
  obtain ⟨o1, ho1⟩ : ∃ o, decide (a1 = b1) = o := ⟨_, rfl⟩
  obtain ⟨o2, ho2⟩ : ∃ o, decide (a2 = b2) = o := ⟨_, rfl⟩
  obtain ⟨o3, ho3⟩ : ∃ o, decide (n = m) = o := ⟨_, rfl⟩
  have R : Hid (decide (a1 = b1 ∧ a2 = b2 ∧ n = m) = (o1 && (o2 && o3))) := Lib.hid (by rw [← ho1, ← ho2, ← ho3, Bool.decide_and, Bool.decide_and])
  have g1 := beq_of ho1
  have g2 := beq_of ho2
  have g3 : (n == m) = o3 := by rw [← ho3, Bool.eq_iff_iff]; simp
  clear h1 h2 k1 k2 ol hB1 hB2 hh1 hh2 hB hw1 hw2 hz1 ho1 ho2 ho3
  cases o1 <;> cases o2 <;> cases o3
  all_goals
    go_enter Tryd.func10, Tryd.ntmps10
    go_upto_region 1 with fail
    rw [← HW1.out, ← HW2.out]
    go_wp2_with fail
    go_ret
    rw [R.out]
    exact ⟨rfl, HB.out⟩
/-- What both sides compute. -/
def shareZ (a b : Nat) : Nat := gpw 64 1 (gpw 64 1 4 b) a
def tokW (a b : Nat) (n : List UInt8) : List UInt8 := (codeO (keyW (secW (shareZ a b : Nat) n) 2) (fourO (gpw 64 1 4 b : Nat))).take 8
theorem tokW_len (a b : Nat) (n : List UInt8) : (tokW a b n).length = 8 := by unfold tokW; rw [List.length_take, codeO_len (keyW_len _ _)]; rfl
theorem okS_of {k : Nat} (h : 1 ≤ k ∧ k < 1073741789) : okS (k : Int) = true := decide_eq_true (by omega)
theorem reply_agree (a b : Nat) (ha : 1 ≤ a ∧ a < 1073741789) (hb : 1 ≤ b ∧ b < 1073741789) (n : List UInt8) (hn : n.length = 8) :
    replyW a (gpw 64 1 4 b : Nat) n = (0, tokW a b n, keyW (secW (shareZ a b : Nat) n) 1, keyW (secW (shareZ a b : Nat) n) 2, 0) := by
  unfold replyW
  rw [if_neg (fun h => h (okS_of ha)), if_neg (fun h => h (point_elem b hb.1 hb.2)), if_neg (fun h => h hn)]
  rfl
theorem check_agree (a b : Nat) (ha : 1 ≤ a ∧ a < 1073741789) (hb : 1 ≤ b ∧ b < 1073741789) (n t : List UInt8) (hn : n.length = 8) :
    checkW (gpw 64 1 4 a : Nat) b n t = if tokW a b n = t then (true, keyW (secW (shareZ a b : Nat) n) 1, keyW (secW (shareZ a b : Nat) n) 2, 0) else (false, [], [], 0) := by
  unfold checkW
  rw [if_neg (fun h => h ⟨okS_of hb, point_elem a ha.1 ha.2, hn⟩)]
  rw [Int.toNat_natCast, Int.toNat_natCast, share_comm a b (by omega) (by omega)]
  rfl
theorem reply_zero (x : Int) (n : List UInt8) : replyW 0 x n = (3, [], [], [], 0) := by
  unfold replyW
  rw [if_pos (by decide)]
set_option maxRecDepth 100000 in
set_option maxHeartbeats 4000000 in
theorem awakeC_any (w : World) (hK : KD w) : Calls Tryd.prog 7 #[] w fun e w' => e = .returned (.bool true) ∧ Below w.heap.size w w' := by
  have hs5 := msecret_any 5 ⟨by decide, by decide⟩
  have hs9 := msecret_any 9 ⟨by decide, by decide⟩
  have hn := mnonce_any 1 ⟨by decide, by decide⟩
  obtain ⟨N, hN⟩ : ∃ N, nonceL 1 8 = N := ⟨_, rfl⟩
  have hl : N.length = 8 := by rw [← hN]; exact nonceL_len 1 8
  obtain ⟨a, ha⟩ : ∃ a, msecW 5 = a := ⟨_, rfl⟩
  obtain ⟨b, hb⟩ : ∃ b, msecW 9 = b := ⟨_, rfl⟩
  have ia := msecW_in 5
  have ib := msecW_in 9
  rw [ha] at hs5 ia
  rw [hb] at hs9 ib
  rw [hN] at hn
  have hr := reply_agree a b ia ib N hl
  have hc := check_agree a b ia ib N (tokW a b N) hl
  rw [if_pos rfl] at hc
  have tl := tokW_len a b N
  have l1 := keyW_len (secW (shareZ a b : Nat) N) 1
  have l2 := keyW_len (secW (shareZ a b : Nat) N) 2
  have r0 := reply_zero ((gpw 64 1 4 b : Nat) : Int) N
  obtain ⟨T, hT⟩ : ∃ T, tokW a b N = T := ⟨_, rfl⟩
  obtain ⟨K1, hK1⟩ : ∃ K, keyW (secW (shareZ a b : Nat) N) 1 = K := ⟨_, rfl⟩
  obtain ⟨K2, hK2⟩ : ∃ K, keyW (secW (shareZ a b : Nat) N) 2 = K := ⟨_, rfl⟩
  obtain ⟨p, hp⟩ : ∃ p, gpw 64 1 4 a = p := ⟨_, rfl⟩
  obtain ⟨y, hy⟩ : ∃ y, gpw 64 1 4 b = y := ⟨_, rfl⟩
  rw [hp] at hs5 hc
  rw [hy] at hs9 hr r0
  rw [hT, hK1, hK2] at hr hc
  rw [hT] at tl
  rw [hK1] at l1
  rw [hK2] at l2
  have HS5 := Lib.hid hs5; have HS9 := Lib.hid hs9; have HN := Lib.hid hn; have HR := Lib.hid hr; have HC := Lib.hid hc; have TL := Lib.hid tl; have L1 := Lib.hid l1; have L2 := Lib.hid l2; have HR0 := Lib.hid r0; have HK := Lib.hid hK
  clear hs5 hs9 hn hr hc tl l1 l2 r0 hK hN hl ha hb ia ib hT hK1 hK2 hp hy
  go_enter Tryd.func7, Tryd.ntmps7
  go_wp2_with (first
    | (go_at_call 10; refine (csame_any _ _ K1 K2 K1 K2 0 0 _ _ _ ⟨_, _, rfl, V6.out.at 6 rfl, V6.out.at 5 rfl⟩ ⟨_, _, rfl, V6.out.at 2 rfl, V6.out.at 1 rfl⟩).mono ?_; rintro e w7 ⟨rfl, hb⟩; rw [decide_eq_true (show K1 = K1 ∧ K2 = K2 ∧ (0 : Int) = 0 from ⟨rfl, rfl, rfl⟩)]; have B7 := Lib.hid (B6.out.trans (hb.mono B6.out.size)); clear hb)
    | (go_at_call 8; refine (creply_any _ _ _ N w5 (HK.out.below B5.out HK.out.lt) (V5.out.at 0 rfl)).mono ?_; rw [HR0.out]; rintro e w6 ⟨P0, s6, rfl, hv, _, ⟨P1, P2, rfl, h1, h2⟩, hb0⟩; obtain ⟨z1, zn1, zc1, hp⟩ := h1.form; subst hp; obtain ⟨z2, zn2, zc2, hp⟩ := h2.form; subst hp; obtain ⟨z0, zn0, zc0, hp⟩ := hv.form; subst hp; have hbf : Below w6.heap.size w6 (fillS w6 (.slice z1 zn1 zc1) (.slice z2 zn2 zc2) (.int .i64 0)) := below_fillS w6 _ _ _; have hb := hb0.trans (hbf.mono hb0.size); have V6 := Lib.hid (V5.out.on hb); have B6 := Lib.hid (B5.out.trans (hb.mono B5.out.size)); obtain ⟨q0, q1, q2, _⟩ := sess3 ((hb.block _ (Array.getElem?_eq_some_iff.1 X5.out).1).trans X5.out); obtain ⟨r0, r1, r2, _⟩ := sess3 ((hb.block _ (Array.getElem?_eq_some_iff.1 Y5.out).1).trans Y5.out); obtain ⟨n0, n1, n2, nf⟩ := sess3 (fresh_row w6); have nf0 := nf 0; have nf1 := nf 1; have nf2 := nf 2; clear nf; clear hv h1 h2 hb hb0 hbf)
    | (go_at_call 14; refine (HN.out (fillS w4 (.slice y1 16 yc1) (.slice y2 16 yc2) (.int .i64 0))).mono ?_; rintro e w5 ⟨v5, rfl, hs, hb0⟩; have hb : Below w4.heap.size w4 w5 := (below_fillS w4 (.slice y1 16 yc1) (.slice y2 16 yc2) (.int .i64 0)).trans (hb0.mono (below_fillS w4 (.slice y1 16 yc1) (.slice y2 16 yc2) (.int .i64 0)).size); have V5 := Lib.hid ((V4.out.on hb).new hs); have B5 := Lib.hid (B4.out.trans (hb.mono B4.out.size)); have X5 : Hid (w5.heap[w2.heap.size]? = some (.cells #[.slice x1 16 xc1, .slice x2 16 xc2, .int .i64 0] 25 (0, 0))) := Lib.hid ((hb.block _ (Array.getElem?_eq_some_iff.1 X4.out).1).trans X4.out); have Y5 : Hid (w5.heap[w4.heap.size]? = some (.cells #[.slice y1 16 yc1, .slice y2 16 yc2, .int .i64 0] 25 (0, 0))) := Lib.hid ((hb0.block _ (fill_lt w4 _ _ _)).trans (fill_row w4 (.slice y1 16 yc1) (.slice y2 16 yc2) (.int .i64 0))); clear hs hb hb0 n0 n1 n2 nf0 nf1 nf2)
    | (go_at_call 11; refine (ccheck_any _ _ _ _ N T w3 (HK.out.below B3.out HK.out.lt) (V3.out.at 0 rfl) (V3.out.at 1 rfl)).mono ?_; rw [HC.out]; rintro e w4 ⟨s4, rfl, ⟨P1, P2, rfl, h1, h2⟩, hb⟩; obtain ⟨y1, yc1, hp⟩ : ∃ A c, P1 = .slice A 16 c := (by obtain ⟨a, c, e, _⟩ := h1; rw [L1.out] at e; exact ⟨a, c, e⟩); subst hp; obtain ⟨y2, yc2, hp⟩ : ∃ A c, P2 = .slice A 16 c := (by obtain ⟨a, c, e, _⟩ := h2; rw [L2.out] at e; exact ⟨a, c, e⟩); subst hp; have V4 := Lib.hid (((V3.out.on hb).new h1).new h2); have B4 := Lib.hid (B3.out.trans (hb.mono B3.out.size)); have X4 : Hid (w4.heap[w2.heap.size]? = some (.cells #[.slice x1 16 xc1, .slice x2 16 xc2, .int .i64 0] 25 (0, 0))) := Lib.hid ((hb.block _ (Array.getElem?_eq_some_iff.1 X3.out).1).trans X3.out); obtain ⟨n0, n1, n2, nf⟩ := sess3 (fresh_row w4); have nf0 := nf 0; have nf1 := nf 1; have nf2 := nf 2; clear nf; clear h1 h2 hb)
    | (go_at_call 14; refine (HN.out (fillS w2 (.slice x1 16 xc1) (.slice x2 16 xc2) (.int .i64 0))).mono ?_; rintro e w3 ⟨v3, rfl, hs, hb0⟩; have hb : Below w2.heap.size w2 w3 := (below_fillS w2 (.slice x1 16 xc1) (.slice x2 16 xc2) (.int .i64 0)).trans (hb0.mono (below_fillS w2 (.slice x1 16 xc1) (.slice x2 16 xc2) (.int .i64 0)).size); have V3 := Lib.hid ((V2.out.on hb).new hs); have B3 := Lib.hid (B2.out.trans (hb.mono B2.out.size)); have X3 : Hid (w3.heap[w2.heap.size]? = some (.cells #[.slice x1 16 xc1, .slice x2 16 xc2, .int .i64 0] 25 (0, 0))) := Lib.hid ((hb0.block _ (fill_lt w2 _ _ _)).trans (fill_row w2 (.slice x1 16 xc1) (.slice x2 16 xc2) (.int .i64 0))); clear hs hb hb0 n0 n1 n2 nf0 nf1 nf2)
    | (go_at_call 8; refine (creply_any _ _ _ N w1 (HK.out.below B1.out HK.out.lt) (V1.out.at 0 rfl)).mono ?_; rw [HR.out]; rintro e w2 ⟨P0, s2, rfl, hv, ho, ⟨P1, P2, rfl, h1, h2⟩, hb⟩; obtain ⟨g2, k2, hp, _⟩ := ho rfl rfl; rw [TL.out] at hp; subst hp; obtain ⟨x1, xc1, hp⟩ : ∃ A c, P1 = .slice A 16 c := (by obtain ⟨a, c, e, _⟩ := h1; rw [L1.out] at e; exact ⟨a, c, e⟩); subst hp; obtain ⟨x2, xc2, hp⟩ : ∃ A c, P2 = .slice A 16 c := (by obtain ⟨a, c, e, _⟩ := h2; rw [L2.out] at e; exact ⟨a, c, e⟩); subst hp; have V2 := Lib.hid ((((V1.out.on hb).new h1).new h2).add (S := (· < w2.heap.size)) (fun _ h => h) hv); have B2 := Lib.hid (B1.out.trans (hb.mono B1.out.size)); obtain ⟨n0, n1, n2, nf⟩ := sess3 (fresh_row w2); have nf0 := nf 0; have nf1 := nf 1; have nf2 := nf 2; clear nf; clear hv ho h1 h2 hb)
    | (go_at_call 14; refine (HN.out w).mono ?_; rintro e w1 ⟨v1, rfl, hs, hb⟩; have V1 := Lib.hid (VW.nil.new hs); have B1 := Lib.hid hb; clear hs hb)
    | (go_at_call 13; have M2 := M1; refine (HS9.out _).mono ?_; rintro e w' ⟨rfl, hw'⟩; rw [hw']; clear hw' w')
    | (go_at_call 13; refine (HS5.out _).mono ?_; rintro e w' ⟨rfl, hw'⟩; rw [hw']; clear hw' w'; have M1 : Hid True := Lib.hid trivial))
  go_ret
  exact ⟨rfl, B7.out⟩
end Go.Proofs.YtnogcnmoeekcpaaDoor
