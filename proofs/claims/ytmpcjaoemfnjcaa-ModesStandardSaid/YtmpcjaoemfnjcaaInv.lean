/- Plain law: Decrypt and Encrypt lead back to the block, in both orders. -/
import Derived.Test.YtmpcjaoemfnjcaaEqual
namespace Go.Proofs.Ytmpcjaoemfnjcaa

/-! Doubling, and multiplying by a constant, keep sums. -/
theorem dbl_sh (a : UInt8) : dbl a = a <<< 1 ^^^ (a >>> 7) * 27 := by
  refine forall_u8 (p := fun a => dbl a = a <<< 1 ^^^ (a >>> 7) * 27) ?_ a
  decide +kernel
theorem top_bit (a : UInt8) : a >>> 7 = 0 ∨ a >>> 7 = 1 := by
  refine forall_u8 (p := fun a => a >>> 7 = 0 ∨ a >>> 7 = 1) ?_ a
  decide +kernel
theorem xor4 (a b c d : UInt8) : (a ^^^ b) ^^^ (c ^^^ d) = (a ^^^ c) ^^^ (b ^^^ d) := by ac_rfl
theorem dbl_xor (a b : UInt8) : dbl (a ^^^ b) = dbl a ^^^ dbl b := by
  rw [dbl_sh, dbl_sh, dbl_sh, UInt8.shiftLeft_xor, UInt8.shiftRight_xor, xor4]
  congr 1
  rcases top_bit a with e | e <;> rcases top_bit b with e2 | e2 <;> rw [e, e2] <;> decide
theorem gmulF_xor (n : Nat) : ∀ (a a' b o o' : UInt8), gmulF n (a ^^^ a') b (o ^^^ o') = gmulF n a b o ^^^ gmulF n a' b o' := by
  induction n with
  | zero => intro a a' b o o'; rfl
  | succ n ih =>
    intro a a' b o o'
    by_cases hb : (b != 0) = true
    · by_cases h1 : (b &&& 1 == 1) = true
      · rw [gmulF_odd _ _ _ _ hb h1, gmulF_odd _ _ _ _ hb h1, gmulF_odd _ _ _ _ hb h1, dbl_xor, xor4, ih]
      · have h1 : (b &&& 1 == 1) = false := by simpa using h1
        rw [gmulF_even _ _ _ _ hb h1, gmulF_even _ _ _ _ hb h1, gmulF_even _ _ _ _ hb h1, dbl_xor, ih]
    · have hb : (b != 0) = false := by simpa using hb
      rw [gmulF_end _ _ _ _ hb, gmulF_end _ _ _ _ hb, gmulF_end _ _ _ _ hb]
theorem gmul_xor (a a' b : UInt8) : gmul (a ^^^ a') b = gmul a b ^^^ gmul a' b := by
  have := gmulF_xor 8 a a' b 0 0
  rwa [show (0 : UInt8) ^^^ 0 = 0 from rfl] at this
theorem gmul_xor4 (a b c d e : UInt8) : gmul (a ^^^ b ^^^ c ^^^ d) e = gmul a e ^^^ gmul b e ^^^ gmul c e ^^^ gmul d e := by
  rw [gmul_xor, gmul_xor, gmul_xor]

/-- One byte of the product of a column and a matrix row. -/
theorem mixF_four (row f : Nat → UInt8) (c r : Nat) (hr : r < 4) :
    mixF row f (4 * c + r) = gmul (f (4 * c)) (row ((0 + 4 - r) % 4)) ^^^ gmul (f (4 * c + 1)) (row ((1 + 4 - r) % 4)) ^^^ gmul (f (4 * c + 2)) (row ((2 + 4 - r) % 4)) ^^^ gmul (f (4 * c + 3)) (row ((3 + 4 - r) % 4)) := by
  unfold mixF
  rw [mixS_succ, mixS_succ, mixS_succ, mixS_succ]
  rw [show (4 * c + r) / 4 * 4 = 4 * c by omega, show (4 * c + r) % 4 = r by omega]
  show 0 ^^^ _ ^^^ _ ^^^ _ ^^^ _ = _
  rw [UInt8.zero_xor, Nat.add_zero]
/-- What a byte of the column gives to a byte of it, through both matrices. -/
def through (D E : Nat → UInt8) (m r : Nat) (x : UInt8) : UInt8 :=
  gmul (gmul x (E ((m + 4 - 0) % 4))) (D ((0 + 4 - r) % 4)) ^^^ gmul (gmul x (E ((m + 4 - 1) % 4))) (D ((1 + 4 - r) % 4)) ^^^ gmul (gmul x (E ((m + 4 - 2) % 4))) (D ((2 + 4 - r) % 4)) ^^^ gmul (gmul x (E ((m + 4 - 3) % 4))) (D ((3 + 4 - r) % 4))
theorem mix_mix (D E f : Nat → UInt8) (c r : Nat) (hr : r < 4) :
    mixF D (mixF E f) (4 * c + r) = through D E 0 r (f (4 * c)) ^^^ through D E 1 r (f (4 * c + 1)) ^^^ through D E 2 r (f (4 * c + 2)) ^^^ through D E 3 r (f (4 * c + 3)) := by
  rw [mixF_four D (mixF E f) c r hr]
  have h0 := mixF_four E f c 0 (by omega)
  have h1 := mixF_four E f c 1 (by omega)
  have h2 := mixF_four E f c 2 (by omega)
  have h3 := mixF_four E f c 3 (by omega)
  rw [Nat.add_zero] at h0
  rw [h0, h1, h2, h3, gmul_xor4, gmul_xor4, gmul_xor4, gmul_xor4]
  unfold through
  simp only [Nat.zero_add, Nat.sub_zero]
  generalize D (_ % 4) = d0
  ac_rfl
def idC (m r : Nat) (x : UInt8) : UInt8 := if m = r then x else 0
theorem thru_DE_all : ∀ m, m < 4 → ∀ r, r < 4 → ∀ n, n < 256 → through mixD mixE m r (UInt8.ofNat n) = idC m r (UInt8.ofNat n) := by
  decide +kernel
theorem thru_DE (m r : Nat) (hm : m < 4) (hr : r < 4) (x : UInt8) : through mixD mixE m r x = idC m r x :=
  forall_u8 (p := fun x => through mixD mixE m r x = idC m r x) (fun n hn => thru_DE_all m hm r hr n hn) x
theorem thru_ED_all : ∀ m, m < 4 → ∀ r, r < 4 → ∀ n, n < 256 → through mixE mixD m r (UInt8.ofNat n) = idC m r (UInt8.ofNat n) := by
  decide +kernel
theorem thru_ED (m r : Nat) (hm : m < 4) (hr : r < 4) (x : UInt8) : through mixE mixD m r x = idC m r x :=
  forall_u8 (p := fun x => through mixE mixD m r x = idC m r x) (fun n hn => thru_ED_all m hm r hr n hn) x
theorem mix_back (D E f : Nat → UInt8) (h : ∀ m r, m < 4 → r < 4 → ∀ x, through D E m r x = idC m r x) (i : Nat) : mixF D (mixF E f) i = f i := by
  obtain ⟨c, r, hr, rfl⟩ : ∃ c r, r < 4 ∧ i = 4 * c + r := ⟨i / 4, i % 4, by omega, by omega⟩
  rw [mix_mix D E f c r hr, h 0 r (by omega) hr, h 1 r (by omega) hr, h 2 r (by omega) hr, h 3 r (by omega) hr]
  unfold idC
  rcases r with _ | _ | _ | _ | r
  · simp
  · simp
  · simp
  · simp
  · omega
theorem mixD_mixE (f : Nat → UInt8) : mixF mixD (mixF mixE f) = f := by
  funext i
  exact mix_back mixD mixE f (fun m r hm hr x => thru_DE m r hm hr x) i
theorem mixE_mixD (f : Nat → UInt8) : mixF mixE (mixF mixD f) = f := by
  funext i
  exact mix_back mixE mixD f (fun m r hm hr x => thru_ED m r hm hr x) i
theorem mixF_congr (row : Nat → UInt8) {f g : Nat → UInt8} (h : ∀ j, j < 16 → f j = g j) (j : Nat) (hj : j < 16) : mixF row f j = mixF row g j := by
  obtain ⟨c, r, hr, rfl⟩ : ∃ c r, r < 4 ∧ j = 4 * c + r := ⟨j / 4, j % 4, by omega, by omega⟩
  rw [mixF_four row f c r hr, mixF_four row g c r hr, h _ (by omega), h _ (by omega), h _ (by omega), h _ (by omega)]

theorem rot31 (f : Nat → UInt8) (i : Nat) (hi : i < 16) : rotF 3 (rotF 1 f) i = f i := by
  unfold rotF; congr 1; omega
theorem rot13 (f : Nat → UInt8) (i : Nat) (hi : i < 16) : rotF 1 (rotF 3 f) i = f i := by
  unfold rotF; congr 1; omega
theorem rotF_congr (s : Nat) {f g : Nat → UInt8} (h : ∀ j, j < 16 → f j = g j) (i : Nat) : rotF s f i = rotF s g i := by
  unfold rotF; exact h _ (by omega)
theorem bck_fwd (b : UInt8) : bck (fwd b.toNat).toNat = b := by rw [fwd_SB, bck_SB]
theorem fwd_bck (b : UInt8) : fwd (bck b.toNat).toNat = b := by
  obtain ⟨a, rfl⟩ : ∃ a, b = SB a := ⟨bsF b, (back_SB b).symm⟩
  rw [bck_SB, fwd_SB]
theorem xor_back (a b : UInt8) : a ^^^ b ^^^ b = a := by rw [UInt8.xor_assoc, UInt8.xor_self, UInt8.xor_zero]

/-- The states of the decryption of an encrypted block are those of the encryption, backwards. -/
theorem dec_enc (key f g : Nat → UInt8) (hg : ∀ j, j < 16 → g j = encF key f j) (n : Nat) (hn : n ≤ 10) : ∀ j, j < 16 → decS key g n j = encS key f (10 - n) j := by
  induction n with
  | zero => intro j hj; exact hg j hj
  | succ n ih =>
    have ih := ih (by omega)
    obtain ⟨m, hm⟩ : ∃ m, 10 - n = m + 1 := ⟨9 - n, by omega⟩
    have hm2 : 10 - (n + 1) = m := by omega
    intro j hj
    rw [hm2]
    show bck (rotF 3 _ j).toNat = _
    have hstep : ∀ i, i < 16 → (if 10 - n < 10 then mixF mixD (fun j => decS key g n j ^^^ keyF fwd key (10 - n) j) else fun j => decS key g n j ^^^ keyF fwd key (10 - n) j) i = rotF 1 (fun j => fwd (encS key f m j).toNat) i := by
      rw [hm] at ih ⊢
      have hs : ∀ i, i < 16 → decS key g n i ^^^ keyF fwd key (m + 1) i = (if m + 1 < 10 then mixF mixE (rotF 1 fun j => fwd (encS key f m j).toNat) i else rotF 1 (fun j => fwd (encS key f m j).toNat) i) := fun i hi => by
        rw [ih i hi]
        exact xor_back _ _
      intro i hi
      by_cases h : m + 1 < 10
      · rw [if_pos h]
        rw [mixF_congr mixD hs i hi]
        simp only [if_pos h]
        exact congrFun (mixD_mixE _) i
      · rw [if_neg h]
        rw [hs i hi, if_neg h]
    rw [rotF_congr 3 hstep, rot31 _ _ hj]
    exact bck_fwd _
theorem decF_encF (key f g : Nat → UInt8) (hg : ∀ j, j < 16 → g j = encF key f j) (j : Nat) (hj : j < 16) : decF key g j = f j := by
  unfold decF
  rw [dec_enc key f g hg 10 (by omega) j hj]
  exact xor_back _ _
/-- .. and the other way about. -/
theorem enc_dec (key f g : Nat → UInt8) (hf : ∀ j, j < 16 → f j = decF key g j) (n : Nat) (hn : n ≤ 10) : ∀ j, j < 16 → encS key f n j = decS key g (10 - n) j := by
  induction n with
  | zero =>
    intro j hj
    show f j ^^^ keyF fwd key 0 j = _
    rw [hf j hj]
    exact xor_back _ _
  | succ n ih =>
    have ih := ih (by omega)
    obtain ⟨m, hm⟩ : ∃ m, 10 - n = m + 1 := ⟨9 - n, by omega⟩
    have hm2 : 10 - (n + 1) = m := by omega
    rw [hm] at ih
    rw [hm2]
    have hnm : 10 - m = n + 1 := by omega
    intro j hj
    show (if n + 1 < 10 then mixF mixE (rotF 1 fun j => fwd (encS key f n j).toNat) j else rotF 1 (fun j => fwd (encS key f n j).toNat) j) ^^^ keyF fwd key (n + 1) j = _
    have hr : ∀ i, i < 16 → rotF 1 (fun j => fwd (encS key f n j).toNat) i = (if 10 - m < 10 then mixF mixD (fun j => decS key g m j ^^^ keyF fwd key (10 - m) j) else fun j => decS key g m j ^^^ keyF fwd key (10 - m) j) i := fun i hi => by
      rw [rotF_congr 1 (g := rotF 3 (if 10 - m < 10 then mixF mixD (fun j => decS key g m j ^^^ keyF fwd key (10 - m) j) else fun j => decS key g m j ^^^ keyF fwd key (10 - m) j)) (fun i hi => by rw [ih i hi]; exact fwd_bck _) i, rot13 _ _ hi]
    rw [hnm] at hr
    by_cases h : n + 1 < 10
    · rw [if_pos h] at hr ⊢
      rw [mixF_congr mixE hr j hj, mixE_mixD]
      exact xor_back _ _
    · rw [if_neg h] at hr ⊢
      rw [hr j hj]
      exact xor_back _ _
theorem encF_decF (key f g : Nat → UInt8) (hf : ∀ j, j < 16 → f j = decF key g j) (j : Nat) (hj : j < 16) : encF key f j = g j := by
  unfold encF
  rw [enc_dec key f g hf 10 (by omega) j hj]
  rfl
theorem dec_enc_list (k l : List UInt8) (hl : l.length = 16) : bList 16 (decF (gb k) (gb (bList 16 (encF (gb k) (gb l))))) = l := by
  rw [← bList_of l 16 hl]
  exact bList_congr fun j hj => by
    rw [bList_of l 16 hl]
    exact decF_encF (gb k) (gb l) _ (fun j hj => bList_getD _ _ _ hj) j hj
theorem enc_dec_list (k l : List UInt8) (hl : l.length = 16) : bList 16 (encF (gb k) (gb (bList 16 (decF (gb k) (gb l))))) = l := by
  rw [← bList_of l 16 hl]
  exact bList_congr fun j hj => by
    rw [bList_of l 16 hl]
    exact encF_decF (gb k) _ (gb l) (fun j hj => bList_getD _ _ _ hj) j hj
end Go.Proofs.Ytmpcjaoemfnjcaa
