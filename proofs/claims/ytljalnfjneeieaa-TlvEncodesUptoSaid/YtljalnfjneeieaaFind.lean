/- Layer 2: the walk of Find. -/
import Derived.Test.YtljalnfjneeieaaFindP
namespace Go.Proofs.Ytljalnfjneeieaa
open Go.RowKit Go.Deep

set_option maxRecDepth 100000 in
set_option maxHeartbeats 1000000 in
theorem eqTag_any (t g : Int) (xa ka : Option Addr) (xl xc kl kc p : Nat) (w : World) (hp : w.cell? ⟨p, 0, none⟩ = some (.int .i64 g)) (hpl : p < w.heap.size) :
    Calls Try.prog 53 #[.agg #[.int .i64 t, .slice xa xl xc, .slice ka kl kc], .pointer (some ⟨p, 0, none⟩)] w fun e w' => e = .returned (.bool (t == g)) ∧ Below w.heap.size w w' := by
  go_enter Try.func53, Try.ntmps53
  go_wp2_with fail
  go_ret
  exact ⟨rfl, (Below.refl _ _).alloc (Nat.le_refl _) _⟩
/-- Where the first object with a tag stands; -1 if there is none. -/
def Ns.idx : Ns → Int → Nat → Int
  | .nil, _, _ => -1
  | .cons t _ _ r, g, j => if t = g then (j : Int) else r.idx g (j + 1)
theorem idx_none (L : Ns) (g : Int) : ∀ j, L.pick g = none → L.idx g j = -1 := by
  induction L with
  | nil => intro j _; rfl
  | cons t v k r _ ih =>
    intro j h
    rw [Ns.pick] at h
    split at h
    · cases h
    · rename_i ht
      rw [Ns.idx, if_neg ht]
      exact ih (j + 1) h
theorem idx_some {w : World} {S : Nat → Prop} {g : Int} {v : List UInt8} {k : Ns} (L : Ns) : ∀ (b off j : Nat), NsAt w S L b off → L.pick g = some (v, k) → ∃ i : Nat, L.idx g j = (i : Int) ∧ j ≤ i ∧ i < j + L.len ∧
    w.cell? ⟨b, off + (i - j) * 3, none⟩ = some (.int .i64 g) ∧ I64in g ∧ (∃ x, w.cell? ⟨b, off + (i - j) * 3 + 1, none⟩ = some x ∧ BsS w S x v) ∧ (∃ y, w.cell? ⟨b, off + (i - j) * 3 + 2, none⟩ = some y ∧ NsS w S y k) := by
  induction L with
  | nil => intro b off j _ h; cases h
  | cons t v' k' r _ ih =>
    intro b off j hat h
    obtain ⟨h1, h2, ⟨x, h3, h4⟩, ⟨ka, kc, h5, h6, h7, h8x, h9⟩, h10⟩ := hat
    rw [Ns.pick] at h
    split at h
    · rename_i ht
      subst ht
      injection h with h
      injection h with e1 e2
      subst e1 e2
      refine ⟨j, by rw [Ns.idx, if_pos rfl], Nat.le_refl _, by simp [Ns.len], ?_⟩
      rw [Nat.sub_self, Nat.zero_mul, Nat.add_zero]
      exact ⟨h1, h2, ⟨x, h3, h4⟩, ⟨_, h5, ka, kc, rfl, h6, h7, h8x, h9⟩⟩
    · rename_i ht
      obtain ⟨i, g1, g2, g3, g4⟩ := ih b (off + 3) (j + 1) h10 h
      have e : off + 3 + (i - (j + 1)) * 3 = off + (i - j) * 3 := by
        obtain ⟨d, rfl⟩ : ∃ d, i = j + 1 + d := ⟨i - (j + 1), by omega⟩
        rw [show j + 1 + d - (j + 1) = d by omega, show j + 1 + d - j = d + 1 by omega]
        omega
      rw [e] at g4
      exact ⟨i, by rw [Ns.idx, if_neg ht]; exact g1, by omega, by simp only [Ns.len]; omega, g4⟩
set_option maxRecDepth 100000 in
set_option maxHeartbeats 2000000 in
theorem index_any (L : Ns) (v : Value) (S : Nat → Prop) (g : Int) (p : Nat) (w : World) (hv : NsS w S v L) (hp : w.cell? ⟨p, 0, none⟩ = some (.int .i64 g)) (hpl : p < w.heap.size) :
    Calls Try.prog 52 #[v, .func (.func 53) #[] #[.pointer (some ⟨p, 0, none⟩)]] w fun e w' => e = .returned (.int .i64 (L.idx g 0)) ∧ Below w.heap.size w w' := by
  obtain ⟨a, cap, rfl, hlc, hcap, hlen, hcells⟩ := hv
  have hcap' : cap ≤ 9223372036854775807 := hcap
  obtain ⟨b, off, hb⟩ : ∃ b off, Hid (0 < L.len → a = some ⟨b, off, none⟩ ∧ (S b ∧ b < w.heap.size) ∧ NsAt w S L b off) := by
    rcases Nat.eq_zero_or_pos L.len with h0 | h0
    · exact ⟨0, 0, fun h => by omega⟩
    · obtain ⟨b, off, h1, h2, h3, h4⟩ := hcells h0
      exact ⟨b, off, fun _ => ⟨h1, ⟨h2, h3⟩, h4⟩⟩
  have HP := Lib.hid hp
  clear hcells hcap hp
  go_enter Try.func52, Try.ntmps52
  go_wp2_with fail
  go_loopg [8] L.len (fun m i wr => ∃ (R : Ns) (j : Nat), R.len = m ∧ j + R.len = L.len ∧ i = .int .i64 j ∧ Hid (R.idx g j = L.idx g 0) ∧ NsAt w S R b (off + j * 3) ∧ Below w.heap.size w wr)
  case atStart => exact ⟨L, 0, rfl, by omega, rfl, rfl, by rw [Nat.zero_mul, Nat.add_zero]; exact NsAt.zero hb.out, Below.refl _ _⟩
  case round =>
    obtain ⟨R, j, rfl, hj, rfl, hix, hat, hg⟩ := hrel
    cases R with
    | nil =>
      simp only [Ns.len, Nat.add_zero] at hj
      subst hj
      have E : Hid (L.idx g 0 = -1) := hix.out.symm
      have HG := Lib.hid hg
      clear hat hix hg
      go_wp2_with fail
      go_ret
      exact ⟨by rw [E.out]; rfl, HG.out⟩
    | cons t v k r =>
      obtain ⟨h1, h2, ⟨x, h3, h4⟩, ⟨ka, kc, h5, h6, h7, h8x, h9⟩, h10⟩ := hat
      simp only [Ns.len] at hj
      have hlt : (j : Int) < L.len := by omega
      obtain ⟨rfl, ⟨hbS, hbl⟩, _⟩ := hb.out (by omega)
      obtain ⟨xa, xc, rfl⟩ := h4.form2
      have q0 := (hg.cell (p := ⟨b, off + j * 3, none⟩) hbl).trans h1
      have q1 := (hg.cell (p := ⟨b, off + j * 3 + 1, none⟩) hbl).trans h3
      have q2 := (hg.cell (p := ⟨b, off + j * 3 + 2, none⟩) hbl).trans h5
      have C := Lib.hid (eqTag_any t g xa ka v.length xc k.len kc p wr ((hg.cell (p := ⟨p, 0, none⟩) hpl).trans HP.out) (Nat.lt_of_lt_of_le hpl hg.size))
      have HG := Lib.hid hg; have H10 := Lib.hid h10
      clear h4 h9 h10 hg h1 h3 h5
      by_cases ht : t = g
      · subst ht
        have tg : (t == t) = true := by simp
        have E : Hid (L.idx t 0 = j) := by show _ = _; rw [← hix.out, Ns.idx, if_pos rfl]
        rw [tg] at C
        clear hix
        go_wp2_with (go_at_call 53; refine C.out.mono ?_; rintro e w2 ⟨rfl, hb2⟩; have B2 := Lib.hid (HG.out.trans (hb2.mono HG.out.size)); clear hb2)
        go_ret
        exact ⟨by rw [E.out]; rfl, B2.out⟩
      · have tg : (t == g) = false := by simp [ht]
        have E : Hid (r.idx g (j + 1) = L.idx g 0) := by show _ = _; rw [← hix.out, Ns.idx, if_neg ht]
        rw [tg] at C
        clear hix ht
        go_wp2_with (go_at_call 53; refine C.out.mono ?_; rintro e w2 ⟨rfl, hb2⟩; have B2 := Lib.hid (HG.out.trans (hb2.mono HG.out.size)); clear hb2)
        go_roundg r.len
        case measure => simp [Ns.len]
        case rel => exact ⟨r, j + 1, rfl, by omega, by go_num, E.out, by rw [Nat.add_mul, ← Nat.add_assoc]; exact H10.out, B2.out⟩
end Go.Proofs.Ytljalnfjneeieaa
