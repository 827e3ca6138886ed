/- Layer 2, plain: made objects are good ones; a beginning of one object is truncated. No program is named here. -/
import Derived.Test.YtljalnfjneeieaaCodes
import Derived.Test.YtljalnfjneeieaaTlvG
import Derived.Test.YtljalnfjneeieaaDice3
namespace Go.Proofs.Ytljalnfjneeieaa
open Go.RowKit

theorem made_chk (l : Ns) : ∀ d s, l.made d → 1 ≤ d → d + s ≤ 9 → l.chk s = 0 := by
  induction l with
  | nil => intro d s _ _ _; rfl
  | cons t v k r ihk ihr =>
    intro d s ⟨tv, hf, hr⟩ h1 h2
    have hrr := ihr d s hr h1 h2
    rcases hf with ⟨tc, rfl, h3, hk, _⟩ | ⟨tc, rfl, _⟩
    · rw [chk_good t [] k r s tv (by rw [tc]; simp), if_neg (by omega), if_pos (ihk (d - 1) (s + 1) hk (by omega) (by omega)), hrr]
    · rw [chk_good t v .nil r s tv (by rw [tc]; simp [Ns.len]), if_neg (by omega), if_pos (show Ns.nil.chk (s + 1) = 0 from rfl), hrr]
def allM : Nat → Nat
  | 0 => 1
  | 1 => 1
  | d + 2 => 1 + 3 * allM (d + 1)
theorem made_all (l : Ns) : ∀ d, l.made d → l.all ≤ l.len * allM d := by
  induction l with
  | nil => intro d _; simp [Ns.all]
  | cons t v k r ihk ihr =>
    intro d ⟨tv, hf, hr⟩
    have hrr := ihr d hr
    simp only [Ns.all, Ns.len, Nat.add_mul, Nat.one_mul]
    rcases hf with ⟨tc, rfl, h3, hk, hl⟩ | ⟨tc, rfl, _⟩
    · obtain ⟨e, rfl⟩ : ∃ e, d = e + 2 := ⟨d - 2, by omega⟩
      have hkk := ihk (e + 1) hk
      have : k.len * allM (e + 1) ≤ 3 * allM (e + 1) := Nat.mul_le_mul_right _ hl
      rw [show allM (e + 2) = 1 + 3 * allM (e + 1) from rfl] at *
      omega
    · have : 1 ≤ allM d := by
        match d with
        | 0 => simp [allM]
        | 1 => simp [allM]
        | d + 2 => rw [show allM (d + 2) = 1 + 3 * allM (d + 1) from rfl]; omega
      simp only [Ns.all]
      omega
theorem made_enc (l : Ns) : ∀ d, l.made d → l.enc.length ≤ 280 * l.all := by
  induction l with
  | nil => intro d _; simp [Ns.enc]
  | cons t v k r ihk ihr =>
    intro d ⟨tv, hf, hr⟩
    have hrr := ihr d hr
    have he := enc_len t v k r
    simp only [Ns.all]
    rcases hf with ⟨tc, rfl, h3, hk, hl⟩ | ⟨tc, rfl, hv⟩
    · have hkk := ihk (d - 1) hk
      rw [if_pos tc] at he
      omega
    · rw [if_neg (by rw [tc]; decide)] at he
      simp only [Ns.all]
      omega
theorem good_encP {l : Ns} (h1 : l.chk 1 = 0) (h2 : l.all ≤ 256) : encP l = if 4096 < l.enc.length then .error 2 else .ok l.enc := by
  unfold encP
  rw [if_neg (by simpa using h1), if_neg (by omega)]
/-- One constructed object with a short content, cut. -/
theorem cut_one {t : Int} {k : Ns} {j : Nat} (tv : tagV t = true) (tc : tagC t = true) (hn : k.enc.length ≤ 127) (hj : 1 ≤ j) (hj2 : j < (Ns.cons t [] k .nil).enc.length) :
    parseP ((Ns.cons t [] k .nil).enc.take j) true = .error 6 ∧ (Ns.cons t [] k .nil).enc.length = (tagB t).length + 1 + k.enc.length ∧
    (j < (tagB t).length + 1 → sizeQ ((Ns.cons t [] k .nil).enc.take j) = .error 6) ∧ (¬ j < (tagB t).length + 1 → sizeQ ((Ns.cons t [] k .nil).enc.take j) = .ok ((Ns.cons t [] k .nil).enc.length : Nat)) := by
  have e : (Ns.cons t [] k .nil).enc = tagB t ++ (ofI (k.enc.length : Nat) :: k.enc) := by
    rw [enc_cons t [] k .nil k.enc (by rw [tc]; rfl)]
    simp [lenG, Ns.enc, show k.enc.length < 128 by omega]
  rw [e] at hj2 ⊢
  simp only [List.length_append, List.length_cons] at hj2 ⊢
  obtain ⟨a0, tl, htb, ha0⟩ := tagB_head tv
  have h1 : 1 ≤ (tagB t).length := by rw [htb]; simp
  have hlen2 : (tagB t).length ≤ 2 := by unfold tagB; split <;> simp
  obtain ⟨K, hK⟩ : ∃ K, K = (tagB t ++ (ofI (k.enc.length : Nat) :: k.enc)).take j := ⟨_, rfl⟩
  have hKl : K.length = j := by rw [hK, List.length_take, List.length_append, List.length_cons]; omega
  have hne : ∃ x q, K = x :: q := by
    cases K with
    | nil => simp at hKl; omega
    | cons x q => exact ⟨x, q, rfl⟩
  rw [← hK]
  have hh : headP K false = none := by obtain ⟨x, q, e⟩ := hne; rw [e]; simp [headP]
  obtain ⟨m, hm⟩ : ∃ m, K.length = m + 1 := ⟨K.length - 1, by omega⟩
  have done : objP true m K 1 0 = .error 6 → parseP K true = .error 6 := fun ho => by
    unfold parseP
    rw [if_neg (by omega), hm, listP_err hh ho]
  by_cases hjt : j < (tagB t).length
  · have hj1 : j = 1 := by omega
    have ht : tagP K = .error 6 := by
      rcases tagV_cases tv with ⟨a1, a2, a3⟩ | ⟨a1, a2, a3, a4, a5⟩
      · have : tagB t = [ofI t] := by unfold tagB; rw [if_neg (by omega)]
        rw [this] at hjt; simp at hjt; omega
      · have eb : tagB t = [ofI (t / 256), ofI t] := by unfold tagB; rw [if_pos (by omega)]
        have b : bv (ofI (t / 256)) = t / 256 := bv_in (by omega) (by omega)
        have eK : K = [ofI (t / 256)] := by rw [hK, eb, hj1]; rfl
        rw [eK]
        unfold tagP
        rw [if_neg (by simp), bvc, b, if_pos a3, if_pos (by simp)]
    refine ⟨done (by unfold objP objF; rw [ht]), by omega, fun _ => by unfold sizeQ; rw [ht], fun h => by omega⟩
  · have eK : K = tagB t ++ (ofI (k.enc.length : Nat) :: k.enc).take (j - (tagB t).length) := by rw [hK, List.take_append, List.take_of_length_le (by omega)]
    have ht : tagP K = .ok (t, (tagB t).length) := by rw [eK]; exact tagB_read tv _
    have hD : K.drop (tagB t).length = (ofI (k.enc.length : Nat) :: k.enc).take (j - (tagB t).length) := by rw [eK]; simp
    by_cases hj3 : j = (tagB t).length
    · have hs : ∀ o s, sizeP (K.drop (tagB t).length) o s = .error 6 := fun o s => by
        rw [hD, hj3, Nat.sub_self]; rfl
      refine ⟨done (obj_e1 ht (hs _ _)), by omega, fun _ => by unfold sizeQ; rw [ht]; simp only [hs], fun h => by omega⟩
    · obtain ⟨q, hq⟩ : ∃ q, j - (tagB t).length = q + 1 := ⟨j - (tagB t).length - 1, by omega⟩
      have hD2 : K.drop (tagB t).length = [ofI (k.enc.length : Nat)] ++ k.enc.take q := by rw [hD, hq]; rfl
      have hs : ∀ cn st, sizeP (K.drop (tagB t).length) (cn && !st) st = .ok ((k.enc.length : Int), 1) := fun cn st => by
        rw [hD2]; exact len1 st cn (by omega) _
      have hs2 : sizeP (K.drop (tagB t).length) false false = .ok ((k.enc.length : Int), 1) := by
        have := hs false false; simpa using this
      refine ⟨done (obj_e4 ht (hs _ _) (by omega) (by omega) ?_), by omega, fun h => by omega, fun _ => ?_⟩
      · rw [List.length_drop]; omega
      · unfold sizeQ
        rw [ht]
        simp only [hs2]
        congr 1; omega
theorem tagB_len {t : Int} : (tagB t).length = if 255 < t then 2 else 1 := by unfold tagB; split <;> rfl
end Go.Proofs.Ytljalnfjneeieaa
