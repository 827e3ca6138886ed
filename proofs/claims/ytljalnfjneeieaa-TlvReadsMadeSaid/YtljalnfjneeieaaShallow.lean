/- Layer 2: the walk of shallow. -/
import Derived.Test.YtljalnfjneeieaaTlv3
namespace Go.Proofs.Ytljalnfjneeieaa
open Go.RowKit Go.Deep

/-- The call has returned a truth value. -/
def SomeBool (e : Ending) : Prop := ∃ b : Bool, e = .returned (.bool b)
set_option maxRecDepth 100000 in
set_option maxHeartbeats 2000000 in
theorem shallow_any (n : Nat) : ∀ (L : Ns) (v : Value) (d : Nat) (S : Nat → Prop) (w : World), L.all ≤ n → NsS w S v L → d ≤ 12 →
    Calls Try.prog 33 #[v, .int .i64 d] w fun e w' => SomeBool e ∧ w' = w := by
  induction n using Nat.strongRecOn with
  | ind n ih =>
    intro L v d S w hn hv hd
    obtain ⟨a, cap, rfl, hlc, hcap, hlen, hcells⟩ := hv
    have hcap' : cap ≤ 9223372036854775807 := hcap
    obtain ⟨b, off, hb⟩ : ∃ b off, Hid (0 < L.len → a = some ⟨b, off, none⟩ ∧ (S b ∧ b < w.heap.size) ∧ NsAt w S L b off) := by
      rcases Nat.eq_zero_or_pos L.len with h0 | h0
      · exact ⟨0, 0, fun h => by omega⟩
      · obtain ⟨b, off, h1, h2, h3, h4⟩ := hcells h0
        exact ⟨b, off, fun _ => ⟨h1, ⟨h2, h3⟩, h4⟩⟩
    clear hcells hcap
    by_cases hd0 : d = 0
    · subst hd0
      clear ih
      go_enter Try.func33, Try.ntmps33
      go_wp2_with fail
      go_ret
      exact ⟨⟨_, rfl⟩, rfl⟩
    · have d0 : ((d : Int) == 0) = false := by rw [beq_eq_false_iff_ne]; omega
      obtain ⟨e, he⟩ : ∃ e : Nat, Hid (d = e + 1) := ⟨d - 1, by show d = _; omega⟩
      have hde : (d : Int) - 1 = e := by have := he.out; omega
      have he12 : e ≤ 12 := by have := he.out; omega
      clear hd0
      by_cases h300 : L.len > 300
      · have d3 : decide ((L.len : Int) > 300) = true := decide_eq_true (by omega)
        clear ih h300
        go_enter Try.func33, Try.ntmps33
        go_wp2_with fail
        go_ret
        exact ⟨⟨_, rfl⟩, rfl⟩
      · have d3 : decide ((L.len : Int) > 300) = false := decide_eq_false (by omega)
        clear h300
        go_enter Try.func33, Try.ntmps33
        go_wp2_with fail
        go_loopg [5] L.len (fun m i wr => ∃ (R : Ns) (j : Nat), R.len = m ∧ j + R.len = L.len ∧ i = .int .i64 j ∧ R.all ≤ n ∧ NsAt w S R b (off + j * 3) ∧ wr = w)
        case atStart => exact ⟨L, 0, rfl, by omega, rfl, hn, by rw [Nat.zero_mul, Nat.add_zero]; exact NsAt.zero hb.out, rfl⟩
        case round =>
          obtain ⟨R, j, rfl, hj, rfl, hRn, hat, rfl⟩ := hrel
          cases R with
          | nil =>
            simp only [Ns.len, Nat.add_zero] at hj
            subst hj
            clear hat ih
            go_wp2_with fail
            go_ret
            exact ⟨⟨_, rfl⟩, rfl⟩
          | cons t v k r =>
            obtain ⟨h1, h2, ⟨x, h3, h4⟩, ⟨ka, kc, h5, h6, h7, h8x, h9⟩, h10⟩ := hat
            simp only [Ns.len] at hj
            simp only [Ns.all] at hRn
            have hlt : (j : Int) < L.len := by omega
            obtain ⟨rfl, ⟨hbS, hbl⟩, _⟩ := hb.out (by omega)
            obtain ⟨xa, xc, rfl⟩ := h4.form2
            have HK := Lib.hid (ih k.all (by omega) k (.slice ka k.len kc) e S wr (Nat.le_refl _) ⟨ka, kc, rfl, h6, h7, h8x, h9⟩ he12)
            have H10 := Lib.hid h10
            clear h4 h9 h10 ih
            by_cases hv5 : v.length > 5000
            · have d5 : decide ((v.length : Int) > 5000) = true := decide_eq_true (by omega)
              clear hv5
              go_wp2_with fail
              go_ret
              exact ⟨⟨_, rfl⟩, rfl⟩
            · have d5 : decide ((v.length : Int) > 5000) = false := decide_eq_false (by omega)
              clear hv5
              go_wp2_with (go_at_call 33; refine HK.out.mono ?_; rintro e1 w2 ⟨⟨bb, rfl⟩, hw2⟩; rw [hw2]; clear hw2 w2; cases bb)
              · go_ret
                exact ⟨⟨_, rfl⟩, rfl⟩
              · go_roundg r.len
                case measure => simp [Ns.len]
                case rel => exact ⟨r, j + 1, rfl, by omega, by go_num, by omega, by rw [Nat.add_mul, ← Nat.add_assoc]; exact H10.out, rfl⟩
end Go.Proofs.Ytljalnfjneeieaa
