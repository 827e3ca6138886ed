/- Layer 2: the walk of the reference's Count. -/
import Derived.Test.YtljalnfjneeieaaTlvM
namespace Go.Proofs.Ytljalnfjneeieaa
open Go.RowKit Go.Deep

/-- What Count counts, with the limit 256. -/
def Ns.cnt : Ns → Nat → Nat
  | .nil, n => n
  | .cons _ _ k r, n => if n ≤ 256 then r.cnt (n + (1 + k.cnt 0)) else n
theorem Ns.cnt_le (l : Ns) : ∀ n, l.cnt n ≤ n + l.all := by
  induction l with
  | nil => intro n; simp [Ns.cnt, Ns.all]
  | cons t v k r ihk ihr =>
    intro n
    simp only [Ns.cnt, Ns.all]
    split
    · have h1 := ihr (n + (1 + k.cnt 0)); have h2 := ihk 0; omega
    · omega
theorem Ns.cnt_ge (l : Ns) : ∀ n, n ≤ l.cnt n := by
  induction l with
  | nil => intro n; simp [Ns.cnt]
  | cons t v k r ihk ihr =>
    intro n
    simp only [Ns.cnt]
    split
    · have h1 := ihr (n + (1 + k.cnt 0)); omega
    · omega
theorem Ns.cnt_all (l : Ns) : ∀ n, (n + l.all ≤ 256 → l.cnt n = n + l.all) ∧ (256 < n + l.all → 256 < l.cnt n) := by
  induction l with
  | nil => intro n; simp [Ns.cnt, Ns.all]
  | cons t v k r ihk ihr =>
    intro n
    simp only [Ns.cnt, Ns.all]
    obtain ⟨a1, a2⟩ := ihk 0
    obtain ⟨b1, b2⟩ := ihr (n + (1 + k.cnt 0))
    have c1 := r.cnt_ge (n + (1 + k.cnt 0))
    split
    · refine ⟨fun h => ?_, fun h => ?_⟩
      · have := a1 (by omega); rw [b1 (by omega)]; omega
      · rcases Nat.lt_or_ge 256 (0 + k.all) with h' | h'
        · have := a2 h'; omega
        · have := a1 h'; exact b2 (by omega)
    · exact ⟨fun h => by omega, fun h => by omega⟩
theorem Ns.cnt_len (l : Ns) : l.len ≤ l.all := by
  induction l with
  | nil => simp [Ns.len, Ns.all]
  | cons t v k r _ ihr => simp only [Ns.len, Ns.all]; omega
set_option maxRecDepth 100000 in
set_option maxHeartbeats 2000000 in
theorem count_any (n : Nat) : ∀ (L : Ns) (v : Value) (S : Nat → Prop) (w : World), L.all ≤ n → n ≤ 100000000000 → NsS w S v L →
    Calls Try.prog 50 #[v, .int .i64 256] w fun e w' => e = .returned (.int .i64 (L.cnt 0)) ∧ w' = w := by
  induction n using Nat.strongRecOn with
  | ind n ih =>
    intro L v S w hn hn2 hv
    obtain ⟨a, cap, rfl, hlc, hcap, hlen, hcells⟩ := hv
    have hcap' : cap ≤ 9223372036854775807 := hcap
    obtain ⟨b, off, hb⟩ : ∃ b off, Hid (0 < L.len → a = some ⟨b, off, none⟩ ∧ (S b ∧ b < w.heap.size) ∧ NsAt w S L b off) := by
      rcases Nat.eq_zero_or_pos L.len with h0 | h0
      · exact ⟨0, 0, fun h => by omega⟩
      · obtain ⟨b, off, h1, h2, h3, h4⟩ := hcells h0
        exact ⟨b, off, fun _ => ⟨h1, ⟨h2, h3⟩, h4⟩⟩
    clear hcells hcap
    go_enter Try.func50, Try.ntmps50
    go_wp2_with fail
    go_loopg [5, 6] L.len (fun m c i wr => ∃ (R : Ns) (j q : Nat), R.len = m ∧ j + R.len = L.len ∧ i = .int .i64 j ∧ c = .int .i64 q ∧ Hid (R.cnt q = L.cnt 0) ∧ q + R.all ≤ L.all ∧ NsAt w S R b (off + j * 3) ∧ wr = w)
    case atStart =>
      exact ⟨L, 0, 0, rfl, by omega, rfl, rfl, rfl, by omega, by rw [Nat.zero_mul, Nat.add_zero]; exact NsAt.zero hb.out, rfl⟩
    case round =>
      obtain ⟨R, j, q, rfl, hj, rfl, rfl, hcnt, hRn, hat, rfl⟩ := hrel
      cases R with
      | nil =>
        simp only [Ns.len, Nat.add_zero] at hj
        subst hj
        have e : Hid (L.cnt 0 = q) := hcnt.out.symm
        clear hcnt hat ih
        go_wp2_with fail
        go_ret
        exact ⟨by rw [e.out]; rfl, rfl⟩
      | cons t v k r =>
        obtain ⟨h1, h2, ⟨x, h3, h4⟩, ⟨ka, kc, h5, h6, h7, h8x, h9⟩, h10⟩ := hat
        simp only [Ns.len] at hj
        simp only [Ns.all] at hRn
        have hlt : (j : Int) < L.len := by omega
        obtain ⟨rfl, ⟨hbS, hbl⟩, _⟩ := hb.out (by omega)
        have hK := ih k.all (by omega) k (.slice ka k.len kc) S wr (Nat.le_refl _) (by omega) ⟨ka, kc, rfl, h6, h7, h8x, h9⟩
        have hkc := k.cnt_le 0
        have H10 := Lib.hid h10; have HK := Lib.hid hK
        clear h4 h9 h10 hK ih
        by_cases hq : q ≤ 256
        · have B : Hid (r.cnt (q + (1 + k.cnt 0)) = L.cnt 0) := by show _ = _; rw [← hcnt.out, Ns.cnt, if_pos hq]
          clear hcnt
          go_wp2_with (go_at_call 50; refine HK.out.mono ?_; rintro e w2 ⟨rfl, rfl⟩)
          go_roundg r.len
          case measure => simp [Ns.len]
          case rel =>
            exact ⟨r, j + 1, q + (1 + k.cnt 0), rfl, by omega, by go_num, by go_num, B.out, by omega, by rw [Nat.add_mul, ← Nat.add_assoc]; exact H10.out, rfl⟩
        · have B : Hid (L.cnt 0 = q) := by show _ = _; rw [← hcnt.out, Ns.cnt, if_neg hq]
          clear hcnt
          go_wp2_with fail
          go_ret
          exact ⟨by rw [B.out]; rfl, rfl⟩
end Go.Proofs.Ytljalnfjneeieaa
