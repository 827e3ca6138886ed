/- Basic access: the keys of a seed, the lengths. -/
import Derived.Test.YtjbmmdcnccclaaaDoorQKey
namespace Go.Proofs.YtjbmmdcnccclaaaDoor
open Go.RowKit Go.Deep

set_option maxRecDepth 100000 in
set_option maxHeartbeats 1000000 in
theorem keys_any (v : Value) (s : List UInt8) (w : World) (hK : KD w) (hv : Bs w w.heap.size v s) (hl : s.length ≤ 140737488354000) :
    Calls Tryd.prog 39 #[v] w fun e w' => ∃ a c b d, e = .returned (.tuple #[.slice a 16 c, .slice b 16 d]) ∧ BsS w' (New w w') (.slice a 16 c) (keyW s 1) ∧ BsS w' (New w w') (.slice b 16 d) (keyW s 2) ∧ Below w.heap.size w w' := by
  obtain ⟨A, n, c, rfl⟩ := hv.form
  have HV := Lib.hid hv; have HK := Lib.hid hK; have HL := Lib.hid hl
  have H1 := Lib.hid (dkey_any 1 (by omega) (by omega) _ s w hK hv hl)
  clear hv hK
  go_enter Tryd.func39, Tryd.ntmps39
  go_wp2_with (first
    | (go_at_call 63; refine (dkey_any 2 (by omega) (by omega) _ s w1 (HK.out.below HB1.out HK.out.lt) (HV.out.lift HB1.out) HL.out).mono ?_; rintro e w2 ⟨v2, rfl, hs, hb⟩; obtain ⟨A2, c2, hv2⟩ : ∃ A c, v2 = .slice A 16 c := (by obtain ⟨a, c, e, _⟩ := hs; rw [keyW_len] at e; exact ⟨a, c, e⟩); subst hv2; have HS1 : Hid (BsS w2 (New w w1) (.slice A1 16 c1) (keyW s 1)) := Lib.hid (BsS.keep HS1.out fun g hg hl => ⟨hb.block g hl, hg⟩); have HS2 := Lib.hid hs; have HB2 := Lib.hid hb; clear hs hb)
    | (go_at_call 63; refine H1.out.mono ?_; rintro e w1 ⟨v1, rfl, hs, hb⟩; obtain ⟨A1, c1, hv1⟩ : ∃ A c, v1 = .slice A 16 c := (by obtain ⟨a, c, e, _⟩ := hs; rw [keyW_len] at e; exact ⟨a, c, e⟩); subst hv1; have HS1 := Lib.hid hs; have HB1 := Lib.hid hb; clear hs hb))
  go_ret2
  exact ⟨A1, c1, A2, c2, rfl, HS1.out.keep fun g hg _ => ⟨rfl, hg.1, Nat.lt_of_lt_of_le hg.2 HB2.out.size⟩, HS2.out.keep fun g hg _ => ⟨rfl, Nat.le_trans HB1.out.size hg.1, hg.2⟩, HB1.out.trans (HB2.out.mono HB1.out.size)⟩
set_option maxRecDepth 100000 in
set_option maxHeartbeats 1000000 in
theorem rkeys_any (v : Value) (s : List UInt8) (w : World) (hK : KR w) (hv : Bs w w.heap.size v s) (hl : s.length ≤ 140737488354000) :
    Calls Tryd.prog 43 #[v] w fun e w' => ∃ a c b d, e = .returned (.tuple #[.slice a 16 c, .slice b 16 d]) ∧ BsS w' (New w w') (.slice a 16 c) (keyW s 1) ∧ BsS w' (New w w') (.slice b 16 d) (keyW s 2) ∧ Below w.heap.size w w' := by
  obtain ⟨A, n, c, rfl⟩ := hv.form
  have HV := Lib.hid hv; have HK := Lib.hid hK; have HL := Lib.hid hl
  have H1 := Lib.hid (rdkey_any 1 (by omega) (by omega) _ s w hK hv hl)
  clear hv hK
  go_enter Tryd.func43, Tryd.ntmps43
  go_wp2_with (first
    | (go_at_call 70; refine (rdkey_any 2 (by omega) (by omega) _ s w1 (HK.out.below HB1.out HK.out.lt) (HV.out.lift HB1.out) HL.out).mono ?_; rintro e w2 ⟨v2, rfl, hs, hb⟩; obtain ⟨A2, c2, hv2⟩ : ∃ A c, v2 = .slice A 16 c := (by obtain ⟨a, c, e, _⟩ := hs; rw [keyW_len] at e; exact ⟨a, c, e⟩); subst hv2; have HS1 : Hid (BsS w2 (New w w1) (.slice A1 16 c1) (keyW s 1)) := Lib.hid (BsS.keep HS1.out fun g hg hl => ⟨hb.block g hl, hg⟩); have HS2 := Lib.hid hs; have HB2 := Lib.hid hb; clear hs hb)
    | (go_at_call 70; refine H1.out.mono ?_; rintro e w1 ⟨v1, rfl, hs, hb⟩; obtain ⟨A1, c1, hv1⟩ : ∃ A c, v1 = .slice A 16 c := (by obtain ⟨a, c, e, _⟩ := hs; rw [keyW_len] at e; exact ⟨a, c, e⟩); subst hv1; have HS1 := Lib.hid hs; have HB1 := Lib.hid hb; clear hs hb))
  go_ret2
  exact ⟨A1, c1, A2, c2, rfl, HS1.out.keep fun g hg _ => ⟨rfl, hg.1, Nat.lt_of_lt_of_le hg.2 HB2.out.size⟩, HS2.out.keep fun g hg _ => ⟨rfl, Nat.le_trans HB1.out.size hg.1, hg.2⟩, HB1.out.trans (HB2.out.mono HB1.out.size)⟩
/-- A slice value of its three parts. -/
def slV (p : Option Addr × Nat × Nat) : Value := .slice p.1 p.2.1 p.2.2
theorem wrong_any (a : Option Addr) (n c : Nat) (w : World) : Calls Tryd.prog 37 #[.slice a n c] w fun e w' => e = .returned (.bool ((n : Int) != 8)) ∧ w' = w := by
  go_enter Tryd.func37, Tryd.ntmps37
  go_wp2_with fail
  go_ret
  exact ⟨rfl, rfl⟩
set_option maxRecDepth 100000 in
set_option maxHeartbeats 1000000 in
theorem indexL_any (L : List (Option Addr × Nat × Nat)) (g : Nat) (t : TypeId) (w : World) (hg : w.heap[g]? = some (.cells (L.map slV).toArray t (0, 0))) (hn : L.length ≤ 1000) :
    Calls Tryd.prog 62 #[.slice (some ⟨g, 0, none⟩) L.length L.length, .func (.func 37) #[] #[]] w fun e w' => ∃ z, e = .returned (.int .i64 z) ∧ decide (z ≥ 0) = L.any (fun p => (p.2.1 : Int) != 8) ∧ w' = w := by
  have HC : Hid (∀ j (h : j < L.length), w.cell? ⟨g, j, none⟩ = some (slV L[j])) := Lib.hid (fun j h => by
    rw [cell_of_row _ _ _ _ _ _ hg]
    simp [h])
  clear hg
  go_enter Tryd.func62, Tryd.ntmps62
  go_wp2_with fail
  go_loopg [8] L.length (fun m iv wr => ∃ (D R : List (Option Addr × Nat × Nat)), R.length = m ∧ iv = .int .i64 D.length ∧ D.length + R.length = L.length ∧ Hid (D ++ R = L ∧ D.any (fun p => (p.2.1 : Int) != 8) = false) ∧ w = wr)
  case atStart => exact ⟨[], L, rfl, rfl, by simp, Lib.hid ⟨rfl, rfl⟩, rfl⟩
  case round =>
    obtain ⟨D, R, rfl, rfl, hj, hab, rfl⟩ := hrel
    cases R with
    | nil =>
      have E : Hid (L.any (fun p => (p.2.1 : Int) != 8) = false) := Lib.hid (by have := hab.out; rw [List.append_nil] at this; rw [← this.1]; exact this.2)
      simp only [List.length_nil, Nat.add_zero] at hj
      clear hab
      go_wp2_with fail
      go_ret
      exact ⟨_, rfl, by rw [E.out]; rfl, rfl⟩
    | cons p R =>
      obtain ⟨a, n, c⟩ := p
      simp only [List.length_cons] at hj
      have hlt : D.length < L.length := by omega
      have hlt' : (D.length : Int) < L.length := by omega
      have c0 := HC.out D.length hlt
      have en : L[D.length] = (a, n, c) := by simp [← hab.out.1]
      rw [en] at c0
      have c1 : w.cell? ⟨g, D.length, none⟩ = some (.slice a n c) := c0
      have HW := Lib.hid (fun w => wrong_any a n c w)
      obtain ⟨o, ho⟩ : ∃ o, ((n : Int) != 8) = o := ⟨_, rfl⟩
      rw [ho] at HW
      have HO := Lib.hid ho
      clear en c0 ho
      cases o with
      | true =>
        have E : Hid (L.any (fun p => (p.2.1 : Int) != 8) = true) := Lib.hid (by rw [← hab.out.1]; simp [HO.out])
        clear hab HO
        go_wp2_with (go_at_call 37; refine (HW.out _).mono ?_; rintro e w2 ⟨rfl, hw2⟩; rw [hw2]; clear hw2 w2)
        go_ret
        exact ⟨_, rfl, by rw [E.out]; simp, rfl⟩
      | false =>
        have E : Hid (D ++ [(a, n, c)] ++ R = L ∧ (D ++ [(a, n, c)]).any (fun p => (p.2.1 : Int) != 8) = false) := Lib.hid ⟨by rw [List.append_assoc]; exact hab.out.1, by rw [List.any_append, hab.out.2]; simp [HO.out]⟩
        clear hab HO
        go_wp2_with (go_at_call 37; refine (HW.out _).mono ?_; rintro e w2 ⟨rfl, hw2⟩; rw [hw2]; clear hw2 w2)
        go_roundg R.length
        case measure => simp
        case rel => exact ⟨D ++ [(a, n, c)], R, rfl, by rw [List.length_append, List.length_singleton]; go_num, by rw [List.length_append, List.length_singleton]; omega, E, rfl⟩
theorem containsL_any (L : List (Option Addr × Nat × Nat)) (g : Nat) (t : TypeId) (w : World) (hg : w.heap[g]? = some (.cells (L.map slV).toArray t (0, 0))) (hn : L.length ≤ 1000) :
    Calls Tryd.prog 38 #[.slice (some ⟨g, 0, none⟩) L.length L.length, .func (.func 37) #[] #[]] w fun e w' => e = .returned (.bool (L.any (fun p => (p.2.1 : Int) != 8))) ∧ w' = w := by
  have HI := Lib.hid (indexL_any L g t w hg hn)
  clear hg
  go_enter Tryd.func38, Tryd.ntmps38
  go_wp2_with (go_at_call 62; refine HI.out.mono ?_; rintro e w2 ⟨z, rfl, hz, hw2⟩; rw [hw2]; have HZ := Lib.hid hz; clear hw2 w2 hz)
  go_ret
  exact ⟨by rw [← HZ.out]; rfl, rfl⟩
/-- Whether a seed, a half and random numbers have their lengths. -/
def sizesB (n m : Nat) (L : List (Option Addr × Nat × Nat)) : Bool := ((n : Int) == 16) && ((m : Int) == 16) && !L.any (fun p => (p.2.1 : Int) != 8)
set_option maxRecDepth 100000 in
set_option maxHeartbeats 1000000 in
theorem sizes_any (a b : Option Addr) (n m c d : Nat) (L : List (Option Addr × Nat × Nat)) (g : Nat) (t : TypeId) (w : World) (hg : w.heap[g]? = some (.cells (L.map slV).toArray t (0, 0))) (hn : L.length ≤ 1000) :
    Calls Tryd.prog 26 #[.slice a n c, .slice b m d, .slice (some ⟨g, 0, none⟩) L.length L.length] w fun e w' => e = .returned (.bool (sizesB n m L)) ∧ w' = w := by
  have HC := Lib.hid (containsL_any L g t w hg hn)
  obtain ⟨o, ho⟩ : ∃ o, L.any (fun p => (p.2.1 : Int) != 8) = o := ⟨_, rfl⟩
  rw [ho] at HC
  unfold sizesB
  rw [ho]
  clear hg ho
  obtain ⟨x, hx⟩ : ∃ x, ((n : Int) == 16) = x := ⟨_, rfl⟩
  obtain ⟨y, hy⟩ : ∃ y, ((m : Int) == 16) = y := ⟨_, rfl⟩
  rw [hx, hy]
  cases x
  · go_enter Tryd.func26, Tryd.ntmps26
    go_wp2_with fail
    go_ret
    exact ⟨rfl, rfl⟩
  · cases y
    · go_enter Tryd.func26, Tryd.ntmps26
      go_wp2_with fail
      go_ret
      exact ⟨rfl, rfl⟩
    · go_enter Tryd.func26, Tryd.ntmps26
      go_wp2_with (go_at_call 38; refine HC.out.mono ?_; rintro e w2 ⟨rfl, hw2⟩; rw [hw2]; clear hw2 w2)
      go_ret
      exact ⟨by simp, rfl⟩
end Go.Proofs.YtjbmmdcnccclaaaDoor
