/- Plain law: both sides expand, encrypt and decrypt alike. -/
import Derived.Test.YtmpcjaoemfnjcaaSbox
import Derived.Test.YtmpcjaoemfnjcaaRef5g
import Derived.Test.YtmpcjaoemfnjcaaAes7
namespace Go.Proofs.Ytmpcjaoemfnjcaa

theorem kw0_congr {T T' : Nat → UInt8} (hT : ∀ x : UInt8, T x.toNat = T' x.toNat) (old : Nat → UInt8) (c : UInt8) : kw0 T old c = kw0 T' old c := by
  funext r
  unfold kw0
  rw [hT, hT, hT, hT]
theorem kwF_congr {T T' : Nat → UInt8} (hT : ∀ x : UInt8, T x.toNat = T' x.toNat) (old : Nat → UInt8) (c : UInt8) (n : Nat) : kwF T old c n = kwF T' old c n := by
  induction n with
  | zero => exact kw0_congr hT old c
  | succ n ih => unfold kwF; rw [ih]
theorem keyF_congr {T T' : Nat → UInt8} (hT : ∀ x : UInt8, T x.toNat = T' x.toNat) (key : Nat → UInt8) (i : Nat) : keyF T key i = keyF T' key i := by
  induction i with
  | zero => rfl
  | succ i ih =>
    show nextK T (keyF T key i) (rconF i) = nextK T' (keyF T' key i) (rconF i)
    rw [ih]
    funext k
    unfold nextK
    rw [kwF_congr hT]
theorem keyF_rK (key : Nat → UInt8) (i j : Nat) (hj : j < 16) : keyF fwd key i j = rK key i j := by
  unfold rK keysF
  rw [show (16 * i + j) / 16 = i by omega, show (16 * i + j) % 16 = j by omega, keyF_congr fwd_rTab]
theorem keyL_rKeys (key : Nat → UInt8) : keyL key 11 = rKeys key := by
  unfold keyL rKeys
  exact List.map_congr_left fun i _ => bList_congr fun j hj => keyF_rK key i j hj

theorem odd_u8 (b : UInt8) : (b &&& 1 == 1) = (bv b % 2 == 1) := by
  refine forall_u8 (p := fun b => (b &&& 1 == 1) = (bv b % 2 == 1)) ?_ b
  decide +kernel
theorem tmsZ_zero (n : Nat) (a out : UInt8) : tmsZ n a 0 out = out := by
  induction n generalizing a with
  | zero => rfl
  | succ n ih => rw [tmsZ_even _ _ _ _ (by decide)]; exact ih _
theorem gmulF_tmsZ (n : Nat) : ∀ (a b out : UInt8), bv b < 2 ^ n → gmulF n a b out = tmsZ n a (bv b) out := by
  induction n with
  | zero => intro a b out h; rfl
  | succ n ih =>
    intro a b out h
    by_cases hb : (b != 0) = true
    · have hd : bv (b / 2) = bv b / 2 := by
        have := bv_div b 2 (by omega) (by omega)
        rw [ofI_2] at this
        exact this.symm
      have h2 := shr_lt b n h
      by_cases h1 : (b &&& 1 == 1) = true
      · rw [gmulF_odd _ _ _ _ hb h1, tmsZ_odd _ _ _ _ (by rw [← odd_u8]; exact h1), ih _ _ _ h2, hd]
      · have h1 : (b &&& 1 == 1) = false := by simpa using h1
        rw [gmulF_even _ _ _ _ hb h1, tmsZ_even _ _ _ _ (by rw [← odd_u8]; exact h1), ih _ _ _ h2, hd]
    · have hb : (b != 0) = false := by simpa using hb
      have e : b = 0 := by simpa using hb
      rw [gmulF_end _ _ _ _ hb, e]
      exact (tmsZ_zero _ _ _).symm
theorem gmul_tms (a b : UInt8) : gmul a b = tms a b := gmulF_tmsZ 8 a b 0 (bv_lt b)

theorem mixS_rmixS (row f : Nat → UInt8) (i n : Nat) : mixS row f i n = rmixS row f (i / 4) (i % 4) n := by
  induction n with
  | zero => rfl
  | succ n ih => rw [mixS_succ, rmixS_succ, ih, gmul_tms, Nat.mul_comm]
theorem rmixS_congr (row : Nat → UInt8) {f g : Nat → UInt8} (h : ∀ j, j < 16 → f j = g j) (c r n : Nat) (hc : c < 4) (hn : n ≤ 4) : rmixS row f c r n = rmixS row g c r n := by
  induction n with
  | zero => rfl
  | succ n ih => rw [rmixS_succ, rmixS_succ, ih (by omega), h _ (by omega)]
theorem mix_eq (row : Nat → UInt8) {f g : Nat → UInt8} (h : ∀ j, j < 16 → f j = g j) (i : Nat) (hi : i < 16) : mixF row f i = rmixF row g i := by
  unfold mixF rmixF
  rw [mixS_rmixS, rmixS_congr row h _ _ _ (by omega) (Nat.le_refl _)]

theorem encS_eq (key f : Nat → UInt8) (n : Nat) : ∀ j, j < 16 → encS key f n j = rEncS key f n j := by
  induction n with
  | zero => intro j hj; show f j ^^^ _ = f j ^^^ _; rw [keyF_rK key 0 j hj]
  | succ n ih =>
    have hs : ∀ j, j < 16 → rotF 1 (fun j => fwd (encS key f n j).toNat) j = rSub (rEncS key f n) j := fun j hj => by
      unfold rotF rSub
      dsimp only
      rw [show 4 * ((j / 4 + 1 * (j % 4)) % 4) + j % 4 = (j + 4 * (j % 4)) % 16 by omega, ih _ (by omega), fwd_rTab]
    intro j hj
    show (if n + 1 < 10 then _ else _) ^^^ _ = (if n + 1 < 10 then _ else _) ^^^ _
    rw [keyF_rK key (n + 1) j hj]
    by_cases h : n + 1 < 10
    · rw [if_pos h, if_pos h, mix_eq mixE hs j hj]
    · rw [if_neg h, if_neg h, hs j hj]
theorem encF_eq (key f : Nat → UInt8) : bList 16 (encF key f) = bList 16 (rEncF key f) := bList_congr fun j hj => encS_eq key f 10 j hj
theorem decS_eq (key f : Nat → UInt8) (n : Nat) : ∀ j, j < 16 → decS key f n j = rDecS key f n j := by
  induction n with
  | zero => intro j _; rfl
  | succ n ih =>
    have hk : ∀ j, j < 16 → decS key f n j ^^^ keyF fwd key (10 - n) j = rDecS key f n j ^^^ rK key (10 - n) j := fun j hj => by rw [ih j hj, keyF_rK key _ j hj]
    intro j hj
    show bck (rotF 3 _ j).toNat = rBck (rDecG key (10 - n) (rDecS key f n) ((j + 12 * (j % 4)) % 16)).toNat
    rw [← bck_rBck]
    congr 2
    unfold rotF rDecG
    rw [show 4 * ((j / 4 + 3 * (j % 4)) % 4) + j % 4 = (j + 12 * (j % 4)) % 16 by omega]
    by_cases h : 10 - n < 10
    · rw [if_pos h, if_pos h, mix_eq mixD hk _ (by omega)]
    · rw [if_neg h, if_neg h]
      exact hk _ (by omega)
theorem decF_eq (key f : Nat → UInt8) : bList 16 (decF key f) = bList 16 (rDecF key f) := bList_congr fun j hj => by
  unfold decF rDecF
  rw [decS_eq key f 10 j hj, keyF_rK key 0 j hj]
end Go.Proofs.Ytmpcjaoemfnjcaa
