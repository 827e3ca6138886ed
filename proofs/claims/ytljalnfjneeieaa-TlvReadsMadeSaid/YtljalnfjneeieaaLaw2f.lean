/- Layer 2: TlvStrict. -/
import Derived.Test.YtljalnfjneeieaaLaw2d
import Derived.Test.YtljalnfjneeieaaSpoil
import Derived.Test.YtljalnfjneeieaaSameN
import Derived.Test.YtljalnfjneeieaaTlvP
import Derived.Test.YtljalnfjneeieaaCodes
import Derived.Test.YtljalnfjneeieaaDice2
import Derived.Test.YtljalnfjneeieaaTlvF
/- Layer 2, plain: bytes that are read strictly are the encoding of their objects, and are read otherwise in the same way. No program is named here. -/
namespace Go.Proofs.Ytljalnfjneeieaa
open Go.RowKit

theorem tag_strict {b : List UInt8} {t : Int} {k : Nat} (h : tagP b = .ok (t, k)) : tagV t = true ∧ b.take k = tagB t ∧ 1 ≤ k ∧ k ≤ b.length := by
  obtain ⟨g1, g2, g3⟩ := tagP_ok h
  refine ⟨g1, ?_, g2, g3⟩
  unfold tagP at h
  split at h
  · cases h
  · rename_i h0
    obtain ⟨x0, q, rfl⟩ : ∃ x q, b = x :: q := by
      cases b with
      | nil => simp at h0
      | cons x q => exact ⟨x, q, rfl⟩
    have n0 := bv_nn x0
    have l0 := bv_lt x0
    rw [bvc] at h
    split at h
    · rename_i h1
      split at h
      · cases h
      · rename_i h2
        obtain ⟨x1, q, rfl⟩ : ∃ x p, q = x :: p := by
          cases q with
          | nil => simp at h2
          | cons x p => exact ⟨x, p, rfl⟩
        rw [gbs, bvc] at h
        have n1 := bv_nn x1
        have l1 := bv_lt x1
        split at h
        · injection h with h; injection h with e1 e2
          subst e1 e2
          unfold tagB
          rw [if_pos (by omega)]
          have a1 : ofI ((256 * bv x0 + bv x1) / 256) = x0 := by rw [show (256 * bv x0 + bv x1) / 256 = bv x0 by omega, ofI_bv]
          have a2 : ofI (256 * bv x0 + bv x1) = x1 := by rw [ofI_congr (show (256 * bv x0 + bv x1) % 256 = bv x1 % 256 by omega), ofI_bv]
          rw [a1, a2]; rfl
        · cases h
    · split at h
      · injection h with h; injection h with e1 e2
        subst e1 e2
        unfold tagB
        rw [if_neg (by omega), ofI_bv]; rfl
      · cases h
theorem size_strict {x : List UInt8} {m : Int} {j : Nat} (h : sizeP x false true = .ok (m, j)) (hm : m ≤ 65535) : x.take j = lenG m.toNat ∧ 0 ≤ m ∧ 1 ≤ j ∧ j ≤ x.length ∧ ∀ o, sizeP x o false = .ok (m, j) := by
  unfold sizeP at h
  split at h
  · cases h
  · rename_i h0
    obtain ⟨x0, q, rfl⟩ : ∃ y q, x = y :: q := by
      cases x with
      | nil => simp at h0
      | cons y q => exact ⟨y, q, rfl⟩
    have n0 := bv_nn x0
    have l0 := bv_lt x0
    rw [bvc] at h
    split at h
    · rename_i h1
      injection h with h; injection h with e1 e2
      subst e1 e2
      refine ⟨?_, n0, by omega, by simp, fun o => ?_⟩
      · rw [lenG_forms (by omega), if_pos (by omega), show (((bv x0).toNat : Nat) : Int) = bv x0 by omega, ofI_bv]; rfl
      · unfold sizeP; rw [if_neg h0, bvc, if_pos h1]
    · rename_i h1
      split at h
      · cases h
      · rename_i h2
        split at h
        · simp at h
        · rename_i h3
          split at h
          · cases h
          · rename_i h4
            split at h
            · cases h
            · rename_i h5
              obtain ⟨kk, hkk⟩ : ∃ kk, kk = (gb (x0 :: q) 0).toNat - 128 := ⟨_, rfl⟩
              rw [bvc] at hkk
              have hb0 : bv x0 = (x0.toNat : Int) := rfl
              have hk1 : 1 ≤ kk := by omega
              rw [← hkk] at h h5 h4
              injection h with h; injection h with e1 e2
              subst e2
              have hs : ∀ o, sizeP (x0 :: q) o false = .ok (m, 1 + kk) := fun o => by
                unfold sizeP
                rw [if_neg h0, bvc, if_neg h1, if_neg h2, if_neg h3, ← hkk, if_neg h4, if_neg (by simp), e1]
              simp only [true_and, not_or, not_and] at h5
              obtain ⟨h6, h7⟩ := h5
              have hx0 : x0 = ofI (128 + kk : Nat) := by rw [← ofI_bv x0]; congr 1; omega
              have hq : kk ≤ q.length := by simp at h4; omega
              refine ⟨?_, by omega, by omega, by simp; omega, hs⟩
              obtain ⟨x1, q, rfl⟩ : ∃ y p, q = y :: p := by
                cases q with
                | nil => simp at hq; omega
                | cons y p => exact ⟨y, p, rfl⟩
              have n1 := bv_nn x1
              have l1 := bv_lt x1
              have n1z : bv x1 = 0 → x1 = 0 := fun e => bv_inj (by rw [e]; rfl)
              rcases Nat.lt_or_ge 1 kk with hk2 | hk2
              · have hne : ¬ bv x1 = 0 := fun e => h7 hk2 (n1z e)
                obtain ⟨x2, q, rfl⟩ : ∃ y p, q = y :: p := by
                  cases q with
                  | nil => simp at hq; omega
                  | cons y p => exact ⟨y, p, rfl⟩
                have n2 := bv_nn x2
                have l2 := bv_lt x2
                rcases Nat.lt_or_ge 2 kk with hk3 | hk3
                · exfalso
                  obtain ⟨x3, q, rfl⟩ : ∃ y p, q = y :: p := by
                    cases q with
                    | nil => simp at hq; omega
                    | cons y p => exact ⟨y, p, rfl⟩
                  have n3 := bv_nn x3
                  rcases Nat.lt_or_ge 3 kk with hk4 | hk4
                  · have hk5 : kk = 4 := by omega
                    obtain ⟨x4, q, rfl⟩ : ∃ y p, q = y :: p := by
                      cases q with
                      | nil => simp at hq; omega
                      | cons y p => exact ⟨y, p, rfl⟩
                    have n4 := bv_nn x4
                    rw [hk5] at e1
                    have := be4 x0 x1 x2 x3 x4 q
                    rw [show (x0 :: x1 :: x2 :: x3 :: x4 :: q) = [x0, x1, x2, x3, x4] ++ q from rfl, this] at e1
                    omega
                  · have hk5 : kk = 3 := by omega
                    rw [hk5] at e1
                    have := be3 x0 x1 x2 x3 q
                    rw [show (x0 :: x1 :: x2 :: x3 :: q) = [x0, x1, x2, x3] ++ q from rfl, this] at e1
                    omega
                · have hk5 : kk = 2 := by omega
                  rw [hk5] at e1 hx0 ⊢
                  have := be2 x0 x1 x2 q
                  rw [show (x0 :: x1 :: x2 :: q) = [x0, x1, x2] ++ q from rfl, this] at e1
                  rw [lenG_forms (by omega), if_neg (by omega), if_neg (by omega), show ((m.toNat : Nat) : Int) = m by omega, ← e1]
                  have a1 : ofI ((256 * bv x1 + bv x2) / 256) = x1 := by rw [show (256 * bv x1 + bv x2) / 256 = bv x1 by omega, ofI_bv]
                  have a2 : ofI (256 * bv x1 + bv x2) = x2 := by rw [ofI_congr (show (256 * bv x1 + bv x2) % 256 = bv x2 % 256 by omega), ofI_bv]
                  rw [a1, a2, hx0]; rfl
              · have hk5 : kk = 1 := by omega
                rw [hk5] at e1 hx0 h6 ⊢
                have := be1 x0 x1 q
                rw [show (x0 :: x1 :: q) = [x0, x1] ++ q from rfl, this] at e1 h6
                rw [lenG_forms (by omega), if_neg (by omega), if_pos (by omega), show ((m.toNat : Nat) : Int) = m by omega, ← e1, ofI_bv, hx0]; rfl
theorem take_drop3 (b : List UInt8) (i j n : Nat) : b = b.take i ++ ((b.drop i).take j ++ ((b.drop (i + j)).take n ++ b.drop (i + j + n))) := by
  have e1 := List.take_append_drop i b
  have e2 := List.take_append_drop j (b.drop i)
  have e3 := List.take_append_drop n (b.drop (i + j))
  rw [List.drop_drop] at e2 e3
  rw [e3, e2, e1]
theorem obj_strict {n : Nat} {b : List UInt8} {d c : Nat} {o : Obj1} (h : objP true n b d c = .ok o) : ∃ t k m j, tagP b = .ok (t, k) ∧ sizeP (b.drop k) false true = .ok (m, j) ∧ ¬ 8 < d ∧ ¬ 256 < c + 1 ∧ ¬ (((b.drop (k + j)).length : Nat) : Int) < m ∧ 0 ≤ m ∧
    ((tagC t = true ∧ ∃ r, listP true n ((b.drop (k + j)).take m.toNat) (d + 1) (c + 1) false = .ok r ∧ o = ⟨t, [], r.list, k + j + m.toNat, r.count⟩) ∨ (tagC t = false ∧ o = ⟨t, (b.drop (k + j)).take m.toNat, .nil, k + j + m.toNat, c + 1⟩)) := by
  unfold objP objF at h
  split at h
  · cases h
  · rename_i t k ht
    split at h
    · cases h
    · rename_i m j hs
      rw [show (tagC t && !true) = false by simp] at hs
      have hm0 : 0 ≤ m := (sizeP_ok hs).2.2.2.elim id fun h => by cases h.2
      split at h
      · cases h
      · rename_i h1
        split at h
        · cases h
        · rename_i h2
          split at h
          · cases h
          · rename_i h3
            rw [if_neg (by omega)] at h
            split at h
            · rename_i h4
              split at h
              · cases h
              · rename_i r hr
                injection h with h
                exact ⟨t, k, m, j, ht, hs, h1, h2, h3, hm0, .inl ⟨h4, r, hr, h.symm⟩⟩
            · rename_i h4
              injection h with h
              exact ⟨t, k, m, j, ht, hs, h1, h2, h3, hm0, .inr ⟨by simpa using h4, h.symm⟩⟩
theorem strict_list (n : Nat) : ∀ (b : List UInt8) (d c : Nat) (r : Lst), b.length ≤ 4096 → c ≤ 256 → listP true n b d c false = .ok r →
    r.list.enc = b ∧ r.used = b.length ∧ r.list.chk d = 0 ∧ r.count = c + r.list.all ∧ r.count ≤ 256 ∧ listP false n b d c false = .ok r := by
  induction n with
  | zero =>
    intro b d c r hb hc h
    cases b with
    | nil =>
      rw [listP_end (u := 0) rfl] at h
      injection h with h
      subst h
      exact ⟨rfl, rfl, rfl, rfl, hc, listP_end (u := 0) rfl⟩
    | cons x q =>
      rw [listP.eq_def] at h
      simp [headP] at h
  | succ n ih =>
    intro b d c r hb hc h
    rcases Nat.eq_zero_or_pos b.length with h0 | h0
    · have e : b = [] := List.eq_nil_of_length_eq_zero h0
      subst e
      rw [listP_end (u := 0) rfl] at h
      injection h with h
      subst h
      exact ⟨rfl, rfl, rfl, rfl, hc, listP_end (u := 0) rfl⟩
    · have hh : headP b false = none := by
        cases b with
        | nil => simp at h0
        | cons x q => simp [headP]
      cases ho : objP true n b d c with
      | error e => rw [listP_err hh ho] at h; cases h
      | ok o =>
        rw [listP_step hh ho] at h
        obtain ⟨t, k, m, j, ht, hs, h1, h2, h3, hm0, hor⟩ := obj_strict ho
        obtain ⟨tv, tk, k1, k2⟩ := tag_strict ht
        have hdl : (b.drop (k + j)).length = b.length - (k + j) := List.length_drop ..
        obtain ⟨sj, _, j1, j2, sl⟩ := size_strict hs (by omega)
        rw [List.length_drop] at j2
        have hC : ((b.drop (k + j)).take m.toNat).length = m.toNat := by rw [List.length_take]; omega
        -- the rest
        cases hr : listP true n (b.drop o.used) d o.count false with
        | error e => rw [hr] at h; cases h
        | ok r2 =>
          rw [hr] at h
          simp only [preL] at h
          injection h with h
          have hsplit := take_drop3 b k j m.toNat
          rw [tk, sj] at hsplit
          rcases hor with ⟨tc, r1, hr1, rfl⟩ | ⟨tc, rfl⟩
          · simp only at hr h
            obtain ⟨g1, g2, g3, g4, g5, g6⟩ := ih _ (d + 1) (c + 1) r1 (by rw [List.length_take]; omega) (by omega) hr1
            obtain ⟨f1, f2, f3, f4, f5, f6⟩ := ih _ d r1.count r2 (by rw [List.length_drop]; omega) g5 hr
            have ho2 : objP false n b d c = .ok ⟨t, [], r1.list, k + j + m.toNat, r1.count⟩ := obj_c ht (sl _) h1 h2 h3 (by omega) tc g6
            subst h
            simp only [Ns.app]
            refine ⟨?_, ?_, ?_, ?_, f5, ?_⟩
            · rw [enc_cons t [] r1.list r2.list ((b.drop (k + j)).take m.toNat) (by rw [if_pos tc, g1]), f1, hC]
              simp only [List.append_assoc]
              exact hsplit.symm
            · rw [f2, List.length_drop]; omega
            · rw [chk_good t [] r1.list r2.list d tv (by rw [tc]; simp), if_neg h1, if_pos g3, f3]
            · simp only [Ns.all]; omega
            · rw [listP_step hh ho2]
              simp only [f6, preL, Ns.app]
          · simp only at hr h
            obtain ⟨f1, f2, f3, f4, f5, f6⟩ := ih _ d (c + 1) r2 (by rw [List.length_drop]; omega) (by omega) hr
            have ho2 : objP false n b d c = .ok ⟨t, (b.drop (k + j)).take m.toNat, .nil, k + j + m.toNat, c + 1⟩ := obj_p ht (sl _) h1 h2 h3 (by omega) (by rw [tc]; decide)
            subst h
            simp only [Ns.app]
            refine ⟨?_, ?_, ?_, ?_, f5, ?_⟩
            · rw [enc_cons t _ .nil r2.list ((b.drop (k + j)).take m.toNat) (by rw [if_neg (by rw [tc]; decide)]), f1, hC]
              simp only [List.append_assoc]
              exact hsplit.symm
            · rw [f2, List.length_drop]; omega
            · rw [chk_good t _ .nil r2.list d tv (by rw [tc]; simp [Ns.len]), if_neg h1, if_pos (show Ns.nil.chk (d + 1) = 0 from rfl), f3]
            · simp only [Ns.all]; omega
            · rw [listP_step hh ho2]
              simp only [f6, preL, Ns.app]
theorem strict_parse {b : List UInt8} {l : Ns} (h : parseP b true = .ok l) : encP l = .ok b ∧ parseP b false = .ok l ∧ l.all ≤ 256 ∧ l.enc = b ∧ b.length ≤ 4096 := by
  unfold parseP at h
  split at h
  · cases h
  · rename_i h4
    cases hr : listP true b.length b 1 0 false with
    | error e => rw [hr] at h; cases h
    | ok r =>
      rw [hr] at h
      injection h with h
      subst h
      obtain ⟨g1, g2, g3, g4, g5, g6⟩ := strict_list b.length b 1 0 r (by omega) (by omega) hr
      refine ⟨?_, ?_, by omega, g1, by omega⟩
      · unfold encP
        rw [if_neg (by simpa using g3), if_neg (by omega), g1, if_neg (by omega)]
      · unfold parseP
        rw [if_neg h4, g6]
end Go.Proofs.Ytljalnfjneeieaa
/- Words: what stands through calls that turn the dice alone. -/
namespace Go.Proofs.Ytljalnfjneeieaa
open Go.RowKit Go.Deep

theorem NodesOut.okay {r : Except Int Ns} {w : World} {e : Ending} {w' : World} (h : NodesOut r w e w') {L : Ns} (h1 : r = .ok L) : ∃ a c, e = .returned (.tuple #[.slice a L.len c, .int .i64 0]) ∧ NsS w' (New w w') (.slice a L.len c) L ∧ Below w.heap.size w w' := by subst h1; exact NodesOut.got h
theorem NsS.old {w w' : World} {S : Nat → Prop} {v : Value} {l : Ns} (h : NsS w S v l) (hb : Below w.heap.size w w') : NsS w' S v l := h.keep fun b hs hl => ⟨hb.block b hl, hs⟩
theorem BsS.size {w : World} {S : Nat → Prop} {v : Value} {l : List UInt8} (h : BsS w S v l) : BsS w (· < w.heap.size) v l := h.keep fun b _ hl => ⟨rfl, hl⟩
theorem NsS.size {w : World} {S : Nat → Prop} {v : Value} {l : Ns} (h : NsS w S v l) : NsS w (· < w.heap.size) v l := h.keep fun b _ hl => ⟨rfl, hl⟩
/-- A call that turns the dice alone. -/
theorem NsS.dice {B n : Nat} {w w' : World} {p : Nat} {v : Value} {l : Ns} (h : NsS w (fun b => b < w.heap.size ∧ b ≠ p) v l) (hd : DiePost B w p n w') : NsS w' (fun b => b < w'.heap.size ∧ b ≠ p) v l :=
  h.keep fun b hs hl => ⟨hd.2.block b hl (by intro e; injection e with e; exact hs.2 e), Nat.lt_of_lt_of_le hl hd.2.size, hs.2⟩
theorem BsS.dice {B n : Nat} {w w' : World} {p : Nat} {v : Value} {l : List UInt8} (h : BsS w (fun b => b < w.heap.size ∧ b ≠ p) v l) (hd : DiePost B w p n w') : BsS w' (fun b => b < w'.heap.size ∧ b ≠ p) v l :=
  h.keep fun b hs hl => ⟨hd.2.block b hl (by intro e; injection e with e; exact hs.2 e), Nat.lt_of_lt_of_le hl hd.2.size, hs.2⟩
theorem NsS.on {w w' : World} {p : Nat} {v : Value} {l : Ns} (h : NsS w (fun b => b < w.heap.size ∧ b ≠ p) v l) (hb : Below w.heap.size w w') : NsS w' (fun b => b < w'.heap.size ∧ b ≠ p) v l :=
  h.keep fun b hs hl => ⟨hb.block b hl, Nat.lt_of_lt_of_le hl hb.size, hs.2⟩
theorem BsS.on {w w' : World} {p : Nat} {v : Value} {l : List UInt8} (h : BsS w (fun b => b < w.heap.size ∧ b ≠ p) v l) (hb : Below w.heap.size w w') : BsS w' (fun b => b < w'.heap.size ∧ b ≠ p) v l :=
  h.keep fun b hs hl => ⟨hb.block b hl, Nat.lt_of_lt_of_le hl hb.size, hs.2⟩
theorem NsS.made {w w' : World} {p : Nat} {v : Value} {l : Ns} (h : NsS w' (New w w') v l) (hp : p < w.heap.size) : NsS w' (fun b => b < w'.heap.size ∧ b ≠ p) v l :=
  h.keep fun b hs hl => ⟨rfl, hl, by have := hs.1; omega⟩
theorem BsS.made {w w' : World} {p : Nat} {v : Value} {l : List UInt8} (h : BsS w' (New w w') v l) (hp : p < w.heap.size) : BsS w' (fun b => b < w'.heap.size ∧ b ≠ p) v l :=
  h.keep fun b hs hl => ⟨rfl, hl, by have := hs.1; omega⟩
end Go.Proofs.Ytljalnfjneeieaa
namespace Go.Proofs.Ytljalnfjneeieaa
open Go.RowKit Go.Deep

theorem rplain_any (L : Ns) (v : Value) (w : World) (hv : NsS w (· < w.heap.size) v L) (ha : L.all ≤ 100000000000) :
    Calls Try.prog 19 #[v] w fun e w' => ∃ v', e = .returned v' ∧ BsS w' (New w w') v' (bytesOf (encP L)) ∧ Below w.heap.size w w' := by
  have HE := Lib.hid (rencode_any L v w hv ha)
  obtain ⟨a, c, rfl⟩ := hv.form2
  clear hv
  go_enter Try.func19, Try.ntmps19
  go_wp2_with (go_at_call 34; refine HE.out.mono ?_; rintro e w1 ⟨v1, rfl, hv1, hb1⟩; have H1 := Lib.hid hv1; have B1 := Lib.hid hb1; obtain ⟨a1, c1, rfl⟩ := hv1.form2; clear hv1 hb1)
  go_ret
  exact ⟨_, rfl, H1.out, B1.out⟩
theorem encP_len {L : Ns} : (bytesOf (encP L)).length ≤ 4096 := by
  cases h : encP L with
  | error e => simp [bytesOf]
  | ok l =>
    unfold encP at h
    split at h
    · cases h
    · split at h
      · cases h
      · split at h
        · cases h
        · injection h with h; subst h; simp only [bytesOf]; omega
set_option maxRecDepth 100000 in
set_option maxHeartbeats 4000000 in
theorem tlvStrict_law (v : Value) (n : Nat) (vr : Value) (raw : List UInt8) (nr : raw.length ≤ 140737488351232) (w : World) (hv : IntsS w (· < w.heap.size) v n) (hr : Bs w w.heap.size vr raw) : Calls Try.prog 4 #[v, vr] w fun e w' => e = .returned (.bool true) ∧ Below w.heap.size w w' := by
  have HL := Lib.hid (light_any _ v n w hv)
  have HR := Lib.hid (roll_any v n w hv)
  obtain ⟨va, vc, rfl⟩ := hv.form
  obtain ⟨ra, rc, rfl⟩ := BsS.form2 hr
  have HRAW := Lib.hid hr
  clear hv hr nr
  by_cases hn : (n : Int) ≤ 400
  · have hn1 : decide ((n : Int) ≤ 400) = true := decide_eq_true hn
    rw [hn1] at HL
    clear hn hn1
    go_enter Try.func4, Try.ntmps4
    go_upto_region 5 with (first
      | (go_at_call 16; refine HL.out.mono ?_; rintro e w' ⟨rfl, hw'⟩; rw [hw']; clear hw' w')
      | (go_at_call 17; refine HR.out.mono ?_; rintro e w1 ⟨rfl, hd, hb⟩; have HD1 := Lib.hid hd; have B1 := Lib.hid hb; have s1 := hb.size; have s1' := hd.le; clear hd hb)
      | (go_at_call 20; refine (dnodes_any 4 _ _ n _ HD1.out (by decide) (by decide)).mono ?_; rintro e w2 ⟨kv, K, rfl, hk, hkm, hkl, hd⟩; obtain ⟨ka, kc, rfl⟩ := hk.form2; have HK := Lib.hid (hk.made (p := w.heap.size) (by omega)); have HKA := Lib.hid (made_all K 4 hkm); have HD2 := Lib.hid hd; have s2 := hd.2.size; clear hk hkm hd)
      | (go_at_call 19; refine (rplain_any K _ _ HK.out.size (by have h := HKA.out; have : allM 4 = 40 := rfl; rw [this] at h; omega)).mono ?_; rintro e w3 ⟨pv, rfl, hp, hb⟩; obtain ⟨pa, pc, rfl⟩ := hp.form2; have HP := Lib.hid (hp.made (p := w.heap.size) (by omega)); have HD3 := Lib.hid (HD2.out.1.below (hb.mono HD2.out.1.le)); have B3 := Lib.hid ((B1.out.grown HD2.out.2 (by omega) (fun k e => by injection e with e; omega)).trans (hb.mono (by omega))); have s3 := hb.size; clear hp hb)
      | (go_at_call 18; refine (spoil_any _ _ n (bytesOf (encP K)) _ _ HP.out (by have := encP_len (L := K); omega) HD3.out).mono ?_; rintro e w4 ⟨sv, sl, rfl, hs, hsl, hd⟩; obtain ⟨sa, sc, rfl⟩ := hs.form2; have HS := Lib.hid (hs.made (p := w.heap.size) (by omega)); have HD4 := Lib.hid hd; have B4 := Lib.hid (B3.out.grown hd.2 (by omega) (fun k e => by injection e with e; omega)); have s4 := hd.2.size; clear hs hd))
    clear HKA
    go_wp2_with (go_at_call 21; refine (one_any _ _ n _ _ HD4.out.1 (by decide) (by decide)).mono ?_; rintro e w5 ⟨b5, rfl, hd⟩; have HS5 := Lib.hid (HS.out.dice hd); have B5 := Lib.hid (B4.out.grown hd.2 (by omega) (fun k e => by injection e with e; omega)); have s5 := hd.2.size; clear hd; cases b5)
    · have HV := HS5
      clear HS5 HRAW HL HR HD4 HS
      cases hp : parseP sl true with
      | error er =>
        have ne := parseP_err0 hp
        have n0 : (er != 0) = true := by simp [ne]
        have HP2 := Lib.hid hp
        clear hp ne
        go_wp2_with (first
          | (go_at_call 22; refine (parse_any sl _ true _ HV.out.size).mono ?_; intro e w6 h6; obtain ⟨a6, c6, rfl, hb6⟩ := h6.bad HP2.out; have B6 := Lib.hid (B5.out.trans (hb6.mono B5.out.size)); clear h6 hb6)
          | (go_at_call 11; refine (awake_any _).mono ?_; rintro e w7 ⟨rfl, hb7⟩; have B7 := Lib.hid (B6.out.trans (hb7.mono B6.out.size)); clear hb7))
        go_ret
        exact ⟨by simp, B7.out⟩
      | ok L =>
        obtain ⟨g1, g2, g3, g4, g5⟩ := strict_parse hp
        have HP2 := Lib.hid hp; have G1 := Lib.hid g1; have G2 := Lib.hid g2
        have g6 : L.enc.length ≤ 1000000000000 := by rw [g4]; omega
        have G6 := Lib.hid g6
        clear hp g1 g2 g4 g6
        go_wp2_with (first
          | (go_at_call 22; refine (parse_any sl _ false _ HV7.out.size).mono ?_; intro e w8 h8; obtain ⟨a8, c8, rfl, hv8, hb8⟩ := h8.okay G2.out; have HY := Lib.hid (hv8.size); have HX8 := Lib.hid (HX7.out.on hb8); have HE8 := Lib.hid (HE.out.on hb8); have HV8 := Lib.hid (HV7.out.on hb8); have B8 := Lib.hid (B7.out.trans (hb8.mono B7.out.size)); clear h8 hv8 hb8)
          | (go_at_call 22; refine (parse_any sl _ true _ HV.out.size).mono ?_; intro e w6 h6; obtain ⟨a6, c6, rfl, hv6, hb6⟩ := h6.okay HP2.out; have HX := Lib.hid (hv6.made (p := w.heap.size) (by omega)); have HV6 := Lib.hid (HV.out.on hb6); have B6 := Lib.hid (B5.out.trans (hb6.mono B5.out.size)); have s6 := hb6.size; clear h6 hv6 hb6)
          | (go_at_call 23; refine (encode_any L _ _ HX.out.size (by omega) G6.out).mono ?_; intro e w7 h7; obtain ⟨a7, c7, rfl, hv7, hc7, hb7⟩ := h7.fits G1.out; have HE := Lib.hid (hv7.made (p := w.heap.size) (by omega)); have HX7 := Lib.hid (HX.out.on hb7); have HV7 := Lib.hid (HV6.out.on hb7); have B7 := Lib.hid (B6.out.trans (hb7.mono B6.out.size)); clear h7 hv7 hb7)
          | (go_at_call 11; refine (awake_any _).mono ?_; rintro e w9 ⟨rfl, hb9⟩; have B9 := Lib.hid (B8.out.trans (hb9.mono B8.out.size)); have HX9 := Lib.hid (HX8.out.on hb9); have HY9 := Lib.hid (HY.out.old hb9); have s1 := str_run (HE8.out.on hb9); have s2 := str_run (HV8.out.on hb9); clear hb9)
          | (go_at_call 24; refine (rsame_any _ _ _ _ _ _ _ _ (Nat.le_refl _) HX9.out HY9.out).mono ?_; rintro e w10 ⟨rfl, m1, rfl⟩; rw [Ns.same_refl]))
        go_ret
        exact ⟨by simp, below_drewN B9.out _⟩
    · have HV : Hid (BsS w5 (fun b => b < w5.heap.size ∧ b ≠ w.heap.size) (.slice ra raw.length rc) raw) := HRAW.out.keep fun b hs hl => ⟨B5.out.block b hs, by have := B5.out.size; omega, by omega⟩
      clear HS5 HRAW HL HR HD4 HS
      cases hp : parseP raw true with
      | error er =>
        have ne := parseP_err0 hp
        have n0 : (er != 0) = true := by simp [ne]
        have HP2 := Lib.hid hp
        clear hp ne
        go_wp2_with (first
          | (go_at_call 22; refine (parse_any raw _ true _ HV.out.size).mono ?_; intro e w6 h6; obtain ⟨a6, c6, rfl, hb6⟩ := h6.bad HP2.out; have B6 := Lib.hid (B5.out.trans (hb6.mono B5.out.size)); clear h6 hb6)
          | (go_at_call 11; refine (awake_any _).mono ?_; rintro e w7 ⟨rfl, hb7⟩; have B7 := Lib.hid (B6.out.trans (hb7.mono B6.out.size)); clear hb7))
        go_ret
        exact ⟨by simp, B7.out⟩
      | ok L =>
        obtain ⟨g1, g2, g3, g4, g5⟩ := strict_parse hp
        have HP2 := Lib.hid hp; have G1 := Lib.hid g1; have G2 := Lib.hid g2
        have g6 : L.enc.length ≤ 1000000000000 := by rw [g4]; omega
        have G6 := Lib.hid g6
        clear hp g1 g2 g4 g6
        go_wp2_with (first
          | (go_at_call 22; refine (parse_any raw _ false _ HV7.out.size).mono ?_; intro e w8 h8; obtain ⟨a8, c8, rfl, hv8, hb8⟩ := h8.okay G2.out; have HY := Lib.hid (hv8.size); have HX8 := Lib.hid (HX7.out.on hb8); have HE8 := Lib.hid (HE.out.on hb8); have HV8 := Lib.hid (HV7.out.on hb8); have B8 := Lib.hid (B7.out.trans (hb8.mono B7.out.size)); clear h8 hv8 hb8)
          | (go_at_call 22; refine (parse_any raw _ true _ HV.out.size).mono ?_; intro e w6 h6; obtain ⟨a6, c6, rfl, hv6, hb6⟩ := h6.okay HP2.out; have HX := Lib.hid (hv6.made (p := w.heap.size) (by omega)); have HV6 := Lib.hid (HV.out.on hb6); have B6 := Lib.hid (B5.out.trans (hb6.mono B5.out.size)); have s6 := hb6.size; clear h6 hv6 hb6)
          | (go_at_call 23; refine (encode_any L _ _ HX.out.size (by omega) G6.out).mono ?_; intro e w7 h7; obtain ⟨a7, c7, rfl, hv7, hc7, hb7⟩ := h7.fits G1.out; have HE := Lib.hid (hv7.made (p := w.heap.size) (by omega)); have HX7 := Lib.hid (HX.out.on hb7); have HV7 := Lib.hid (HV6.out.on hb7); have B7 := Lib.hid (B6.out.trans (hb7.mono B6.out.size)); clear h7 hv7 hb7)
          | (go_at_call 11; refine (awake_any _).mono ?_; rintro e w9 ⟨rfl, hb9⟩; have B9 := Lib.hid (B8.out.trans (hb9.mono B8.out.size)); have HX9 := Lib.hid (HX8.out.on hb9); have HY9 := Lib.hid (HY.out.old hb9); have s1 := str_run (HE8.out.on hb9); have s2 := str_run (HV8.out.on hb9); clear hb9)
          | (go_at_call 24; refine (rsame_any _ _ _ _ _ _ _ _ (Nat.le_refl _) HX9.out HY9.out).mono ?_; rintro e w10 ⟨rfl, m1, rfl⟩; rw [Ns.same_refl]))
        go_ret
        exact ⟨by simp, below_drewN B9.out _⟩
  · have hn1 : decide ((n : Int) ≤ 400) = false := decide_eq_false hn
    rw [hn1] at HL
    clear hn hn1
    go_enter Try.func4, Try.ntmps4
    go_wp2_with (first
      | (go_at_call 16; refine HL.out.mono ?_; rintro e w' ⟨rfl, hw'⟩; rw [hw']; clear hw' w')
      | (go_at_call 11; refine (awake_any _).mono ?_; rintro e w1 ⟨rfl, hb⟩; have HB := Lib.hid hb; clear hb))
    go_ret
    exact ⟨by simp, HB.out⟩
end Go.Proofs.Ytljalnfjneeieaa
