/- Plain law: the tables of both sides are one table. -/
import Derived.Test.YtmpcjaoemfnjcaaRef5f
import Derived.Test.YtmpcjaoemfnjcaaAes5
namespace Go.Proofs.Ytmpcjaoemfnjcaa

/-- The table of the substitutes. -/
def sbList : List UInt8 := [99, 124, 119, 123, 242, 107, 111, 197, 48, 1, 103, 43, 254, 215, 171, 118, 202, 130, 201, 125, 250, 89, 71, 240, 173, 212, 162, 175, 156, 164, 114, 192, 183, 253, 147, 38, 54, 63, 247, 204, 52, 165, 229, 241, 113, 216, 49, 21, 4, 199, 35, 195, 24, 150, 5, 154, 7, 18, 128, 226, 235, 39, 178, 117, 9, 131, 44, 26, 27, 110, 90, 160, 82, 59, 214, 179, 41, 227, 47, 132, 83, 209, 0, 237, 32, 252, 177, 91, 106, 203, 190, 57, 74, 76, 88, 207, 208, 239, 170, 251, 67, 77, 51, 133, 69, 249, 2, 127, 80, 60, 159, 168, 81, 163, 64, 143, 146, 157, 56, 245, 188, 182, 218, 33, 16, 255, 243, 210, 205, 12, 19, 236, 95, 151, 68, 23, 196, 167, 126, 61, 100, 93, 25, 115, 96, 129, 79, 220, 34, 42, 144, 136, 70, 238, 184, 20, 222, 94, 11, 219, 224, 50, 58, 10, 73, 6, 36, 92, 194, 211, 172, 98, 145, 149, 228, 121, 231, 200, 55, 109, 141, 213, 78, 169, 108, 86, 244, 234, 101, 122, 174, 8, 186, 120, 37, 46, 28, 166, 180, 198, 232, 221, 116, 31, 75, 189, 139, 138, 112, 62, 181, 102, 72, 3, 246, 14, 97, 53, 87, 185, 134, 193, 29, 158, 225, 248, 152, 17, 105, 217, 142, 148, 155, 30, 135, 233, 206, 85, 40, 223, 140, 161, 137, 13, 191, 230, 66, 104, 65, 153, 45, 15, 176, 84, 187, 22]
def SB (x : UInt8) : UInt8 := sbList.getD x.toNat 0
/-- The table back. -/
def bsF (y : UInt8) : UInt8 := UInt8.ofNat (sbList.idxOf y)
theorem SB_back (x : UInt8) : bsF (SB x) = x := by
  refine forall_u8 (p := fun x => bsF (SB x) = x) ?_ x
  decide +kernel
theorem back_SB (x : UInt8) : SB (bsF x) = x := by
  refine forall_u8 (p := fun x => SB (bsF x) = x) ?_ x
  decide +kernel
theorem SB_inj {x y : UInt8} (h : SB x = SB y) : x = y := by rw [← SB_back x, h, SB_back]

/-! The program's tables. -/
/-- The powers meet the table, from x, y on. -/
def chkP : Nat → UInt8 → UInt8 → Bool
  | 0, _, _ => true
  | n + 1, x, y => (sbx y == SB x) && chkP n (x ^^^ dbl x) (gmul y 246)
theorem chkP_all (m : Nat) : ∀ (n k : Nat), chkP n (powX k) (powY k) = true → m < n → sbx (powY (k + m)) = SB (powX (k + m)) := by
  induction m with
  | zero =>
    intro n k h hn
    obtain ⟨q, rfl⟩ : ∃ q, n = q + 1 := ⟨n - 1, by omega⟩
    unfold chkP at h
    simp only [Bool.and_eq_true, beq_iff_eq] at h
    exact h.1
  | succ m ih =>
    intro n k h hn
    obtain ⟨q, rfl⟩ : ∃ q, n = q + 1 := ⟨n - 1, by omega⟩
    unfold chkP at h
    simp only [Bool.and_eq_true, beq_iff_eq] at h
    have := ih q (k + 1) h.2 (by omega)
    rwa [show k + 1 + m = k + (m + 1) by omega] at this
theorem powers_meet (n : Nat) (hn : n < 255) : sbx (powY n) = SB (powX n) := by
  have := chkP_all n 255 0 (by decide +kernel) hn
  rwa [Nat.zero_add] at this
/-- The powers of 3 reach every byte but 0. -/
def powList : Nat → UInt8 → List UInt8
  | 0, _ => []
  | n + 1, x => x :: powList n (x ^^^ dbl x)
theorem powList_mem (n : Nat) : ∀ (k : Nat) (b : UInt8), b ∈ powList n (powX k) → ∃ m, m < n ∧ powX (k + m) = b := by
  induction n with
  | zero => intro k b h; simp [powList] at h
  | succ n ih =>
    intro k b h
    rw [powList, List.mem_cons] at h
    rcases h with h | h
    · exact ⟨0, by omega, h.symm⟩
    · obtain ⟨m, hm, e⟩ := ih (k + 1) b h
      exact ⟨m + 1, by omega, by rw [← e]; congr 1; omega⟩
theorem powers_reach (b : UInt8) (hb : b ≠ 0) : ∃ m, m < 255 ∧ powX m = b := by
  have h : b ∈ powList 255 (powX 0) := by
    revert hb
    refine forall_u8 (p := fun b => b ≠ 0 → b ∈ powList 255 (powX 0)) ?_ b
    decide +kernel
  obtain ⟨m, hm, e⟩ := powList_mem 255 0 b h
  exact ⟨m, hm, by rwa [Nat.zero_add] at e⟩
theorem powX_ne (n : Nat) (hn : n < 255) : powX n ≠ 0 := by
  have : ∀ m, m < 255 → (powList 255 (powX 0)).getD m 0 ≠ 0 := by decide +kernel
  have hl : ∀ (n k m : Nat), m < n → (powList n (powX k)).getD m 0 = powX (k + m) := by
    intro n
    induction n with
    | zero => intro k m h; omega
    | succ n ih =>
      intro k m h
      rcases m with _ | m
      · rfl
      · have := ih (k + 1) m (by omega)
        rw [powList, List.getD_cons_succ]
        show (powList n (powX (k + 1))).getD m 0 = _
        rw [this]
        congr 1; omega
  have h := hl 255 0 n hn
  rw [Nat.zero_add] at h
  rw [← h]
  exact this n hn
/-- What n steps have entered: the substitutes of the powers that were met. -/
theorem tabF_fwd (n : Nat) (hn : n ≤ 255) (b : UInt8) : (∃ m, m < n ∧ powX m = b) → tabF n b.toNat = SB b := by
  induction n with
  | zero => rintro ⟨m, h, _⟩; omega
  | succ n ih =>
    rintro ⟨m, hm, e⟩
    show setT (tabF n) (powX n) (powY n) b.toNat = _
    unfold setT
    have hlt := b.toNat_lt
    rw [if_neg (by omega)]
    by_cases h : b.toNat = (powX n).toNat
    · rw [if_pos h, powers_meet n (by omega), UInt8.toNat_inj.1 h]
    · rw [if_neg h]
      refine ih (by omega) ⟨m, ?_, e⟩
      rcases Nat.lt_or_ge m n with h1 | h1
      · exact h1
      · have : m = n := by omega
        subst this
        exact absurd (by rw [e]) h
theorem tabF_bck (n : Nat) (hn : n ≤ 255) (b : UInt8) : (∃ m, m < n ∧ powX m = b) → tabF n (256 + (SB b).toNat) = b := by
  induction n with
  | zero => rintro ⟨m, h, _⟩; omega
  | succ n ih =>
    rintro ⟨m, hm, e⟩
    show setT (tabF n) (powX n) (powY n) _ = _
    unfold setT
    rw [powers_meet n (by omega)]
    have hlt := (powX n).toNat_lt
    by_cases h : SB b = SB (powX n)
    · rw [if_pos (by rw [h]), SB_inj h]
    · rw [if_neg (by intro e2; exact h (UInt8.toNat_inj.1 (by omega))), if_neg (by omega)]
      refine ih (by omega) ⟨m, ?_, e⟩
      rcases Nat.lt_or_ge m n with h1 | h1
      · exact h1
      · have : m = n := by omega
        subst this
        exact absurd (by rw [e]) h
theorem sbx_zero : sbx 0 = SB 0 := by decide +kernel
theorem fwd_SB (b : UInt8) : fwd b.toNat = SB b := by
  unfold fwd tabs setT
  have hlt := b.toNat_lt
  rw [if_neg (by omega), sbx_zero]
  by_cases h : b = 0
  · subst h; rw [if_pos rfl]
  · rw [if_neg (by intro e; exact h (UInt8.toNat_inj.1 e))]
    exact tabF_fwd 255 (by omega) b (powers_reach b h)
theorem bck_SB (b : UInt8) : bck (SB b).toNat = b := by
  unfold bck tabs setT
  rw [sbx_zero]
  by_cases h : b = 0
  · subst h; rw [if_pos rfl]
  · rw [if_neg (by intro e; exact h (SB_inj (UInt8.toNat_inj.1 (by omega)))), if_neg (by simp)]
    exact tabF_bck 255 (by omega) b (powers_reach b h)

/-! The reference's table. -/
def chkR : Nat → UInt8 → UInt8 → Bool
  | 0, _, _ => true
  | n + 1, x, y => (aff y == SB x) && chkR n (tms x 3) (tms y 246)
theorem chkR_all (m : Nat) : ∀ (n k : Nat), chkR n (rP k) (rQ k) = true → m < n → aff (rQ (k + m)) = SB (rP (k + m)) := by
  induction m with
  | zero =>
    intro n k h hn
    obtain ⟨q, rfl⟩ : ∃ q, n = q + 1 := ⟨n - 1, by omega⟩
    unfold chkR at h
    simp only [Bool.and_eq_true, beq_iff_eq] at h
    exact h.1
  | succ m ih =>
    intro n k h hn
    obtain ⟨q, rfl⟩ : ∃ q, n = q + 1 := ⟨n - 1, by omega⟩
    unfold chkR at h
    simp only [Bool.and_eq_true, beq_iff_eq] at h
    have := ih q (k + 1) h.2 (by omega)
    rwa [show k + 1 + m = k + (m + 1) by omega] at this
theorem refPowers_meet (n : Nat) (hn : n < 255) : aff (rQ n) = SB (rP n) := by
  have := chkR_all n 255 0 (by decide +kernel) hn
  rwa [Nat.zero_add] at this
theorem tms_three (a : UInt8) : tms a 3 = a ^^^ dbl a := by
  refine forall_u8 (p := fun a => tms a 3 = a ^^^ dbl a) ?_ a
  decide +kernel
theorem rP_powX (n : Nat) : rP n = powX n := by
  induction n with
  | zero => rfl
  | succ n ih => show tms (rP n) 3 = powX n ^^^ dbl (powX n); rw [tms_three, ih]
theorem rT_SB (n : Nat) (hn : n ≤ 255) (b : UInt8) : (∃ m, m < n ∧ powX m = b) → rT n b.toNat = SB b := by
  induction n with
  | zero => rintro ⟨m, h, _⟩; omega
  | succ n ih =>
    rintro ⟨m, hm, e⟩
    show (if b.toNat = (rP n).toNat then aff (rQ n) else rT n b.toNat) = _
    by_cases h : b.toNat = (rP n).toNat
    · rw [if_pos h, refPowers_meet n (by omega), UInt8.toNat_inj.1 h]
    · rw [if_neg h]
      refine ih (by omega) ⟨m, ?_, e⟩
      rcases Nat.lt_or_ge m n with h1 | h1
      · exact h1
      · have : m = n := by omega
        subst this
        exact absurd (by rw [rP_powX, e]) h
theorem rTab_SB (b : UInt8) : rTab b.toNat = SB b := by
  unfold rTab
  by_cases h : b = 0
  · subst h; rw [if_pos (by decide)]; decide +kernel
  · rw [if_neg (by intro e; exact h (UInt8.toNat_inj.1 e))]
    exact rT_SB 255 (by omega) b (powers_reach b h)
theorem rBack_SB (n : Nat) (hn : n ≤ 256) (b : UInt8) (hb : b.toNat < n) : rBack n (SB b).toNat = b := by
  induction n with
  | zero => omega
  | succ n ih =>
    show (if (SB b).toNat = (rTab n).toNat then ofI n else rBack n (SB b).toNat) = _
    have en : n = (UInt8.ofNat n).toNat := by simp; omega
    have et : rTab n = SB (UInt8.ofNat n) := by rw [← rTab_SB, ← en]
    rw [et]
    by_cases h : SB b = SB (UInt8.ofNat n)
    · rw [if_pos (by rw [h]), SB_inj h]
      apply bv_inj
      rw [bv_ofI]
      unfold bv
      rw [← en]
      omega
    · rw [if_neg (by intro e; exact h (UInt8.toNat_inj.1 e))]
      refine ih (by omega) ?_
      rcases Nat.lt_or_ge b.toNat n with h1 | h1
      · exact h1
      · exact absurd (by rw [show b = UInt8.ofNat n from UInt8.toNat_inj.1 (by omega)]) h
theorem rBck_SB (b : UInt8) : rBck (SB b).toNat = b := rBack_SB 256 (by omega) b b.toNat_lt
theorem fwd_rTab (b : UInt8) : fwd b.toNat = rTab b.toNat := by rw [fwd_SB, rTab_SB]
theorem bck_rBck (b : UInt8) : bck b.toNat = rBck b.toNat := by
  rw [← back_SB b, bck_SB, rBck_SB]
end Go.Proofs.Ytmpcjaoemfnjcaa
