/- Plain law of chained blocks: Open undoes Seal, Seal undoes Open; what a change of one block changes. -/
import Derived.Test.YtmpcjaoemfnjcaaSeal1
import Derived.Test.YtmpcjaoemfnjcaaInv
namespace Go.Proofs.Ytmpcjaoemfnjcaa

theorem decL_encL (k l : List UInt8) (hl : l.length = 16) : decL k (encL k l) = l := by
  unfold decL encL; exact dec_enc_list k l hl
theorem encL_decL (k l : List UInt8) (hl : l.length = 16) : encL k (decL k l) = l := by
  unfold decL encL; exact enc_dec_list k l hl
theorem xorL_xorL (a c : List UInt8) (ha : a.length = 16) : xorL (xorL a c) c = a := by
  rw [← bList_of a 16 ha]
  unfold xorL
  refine bList_congr fun j hj => ?_
  rw [bList_getD 16 _ j hj, bList_of a 16 ha, xor_back]

theorem take_blk (b : List UInt8) (n : Nat) : b.take (16 * (n + 1)) = b.take (16 * n) ++ blk b n := by
  unfold blk
  rw [show 16 * (n + 1) = 16 * n + 16 by omega, List.take_add]
theorem blk_append {a c r : List UInt8} {n : Nat} (ha : a.length = 16 * n) (hc : c.length = 16) : blk (a ++ c ++ r) n = c := by
  unfold blk
  rw [List.append_assoc, ← ha, List.drop_left, List.take_left' hc]
/-- A list that grows by blocks keeps what it has. -/
theorem grow_prefix {P : Nat → List UInt8} {c : Nat → List UInt8} (hP : ∀ n, P (n + 1) = P n ++ c n) (n d : Nat) : ∃ r, P (n + d) = P n ++ r := by
  induction d with
  | zero => exact ⟨[], by simp⟩
  | succ d ih =>
    obtain ⟨r, h⟩ := ih
    exact ⟨r ++ c (n + d), by rw [← Nat.add_assoc, hP, h, List.append_assoc]⟩
theorem grow_len {P : Nat → List UInt8} {c : Nat → List UInt8} (h0 : P 0 = []) (hP : ∀ n, P (n + 1) = P n ++ c n) {m : Nat} (hc : ∀ n, n < m → (c n).length = 16) (n : Nat) (hn : n ≤ m) : (P n).length = 16 * n := by
  induction n with
  | zero => rw [h0]; rfl
  | succ n ih => rw [hP, List.length_append, ih (by omega), hc n (by omega)]; omega
theorem grow_blk {P : Nat → List UInt8} {c : Nat → List UInt8} (h0 : P 0 = []) (hP : ∀ n, P (n + 1) = P n ++ c n) {m : Nat} (hc : ∀ n, n < m → (c n).length = 16) (n : Nat) (hn : n < m) : blk (P m) n = c n := by
  obtain ⟨r, hr⟩ := grow_prefix hP (n + 1) (m - (n + 1))
  rw [show n + 1 + (m - (n + 1)) = m by omega, hP] at hr
  rw [hr]
  exact blk_append (grow_len h0 hP hc n (by omega)) (hc n hn)
theorem grow_take {P : Nat → List UInt8} {c : Nat → List UInt8} (h0 : P 0 = []) (hP : ∀ n, P (n + 1) = P n ++ c n) {m : Nat} (hc : ∀ n, n < m → (c n).length = 16) (n : Nat) (hn : n ≤ m) : (P m).take (16 * n) = P n := by
  obtain ⟨r, hr⟩ := grow_prefix hP n (m - n)
  rw [show n + (m - n) = m by omega] at hr
  rw [hr, ← grow_len h0 hP hc n hn]
  exact List.take_left' rfl
/-- Two lists of blocks that agree from a block on. -/
theorem grow_drop {P Q : Nat → List UInt8} {c d : Nat → List UInt8} (h0 : P 0 = []) (hP : ∀ n, P (n + 1) = P n ++ c n) (g0 : Q 0 = []) (hQ : ∀ n, Q (n + 1) = Q n ++ d n) {m : Nat} (hc : ∀ n, n < m → (c n).length = 16) (hd : ∀ n, n < m → (d n).length = 16)
    (s : Nat) (h : ∀ n, s ≤ n → c n = d n) (n : Nat) (hs : s ≤ n) (hn : n ≤ m) : (P n).drop (16 * s) = (Q n).drop (16 * s) := by
  induction n with
  | zero => rw [h0, g0]
  | succ n ih =>
    by_cases e : s = n + 1
    · have l1 := grow_len h0 hP hc (n + 1) hn
      have l2 := grow_len g0 hQ hd (n + 1) hn
      rw [e, List.drop_of_length_le (by omega), List.drop_of_length_le (by omega)]
    · have l1 := grow_len h0 hP hc n (by omega)
      have l2 := grow_len g0 hQ hd n (by omega)
      rw [hP, hQ, List.drop_append_of_le_length (by omega), List.drop_append_of_le_length (by omega), ih (by omega) (by omega), h n (by omega)]

theorem oC_zero' (k iv b : List UInt8) : (openS k iv b (List.range 0)).1 = iv := rfl
theorem sC_zero' (k iv b : List UInt8) : (sealS k iv b (List.range 0)).1 = iv := rfl
section
variable (k iv b : List UInt8)
/-- The chained value, and what has been made, behind n blocks. -/
def sC (n : Nat) : List UInt8 := (sealS k iv b (List.range n)).1
def sP (n : Nat) : List UInt8 := (sealS k iv b (List.range n)).2
def oC (n : Nat) : List UInt8 := (openS k iv b (List.range n)).1
def oP (n : Nat) : List UInt8 := (openS k iv b (List.range n)).2
theorem sC_zero : sC k iv b 0 = iv := sC_zero' k iv b
theorem oC_zero : oC k iv b 0 = iv := oC_zero' k iv b
theorem sP_zero : sP k iv b 0 = [] := rfl
theorem oP_zero : oP k iv b 0 = [] := rfl
theorem sC_succ (n : Nat) : sC k iv b (n + 1) = encL k (xorL (blk b n) (sC k iv b n)) := by unfold sC; rw [List.range_succ, sealS_snoc]; rfl
theorem sP_succ (n : Nat) : sP k iv b (n + 1) = sP k iv b n ++ sC k iv b (n + 1) := by rw [sC_succ]; unfold sP sC; rw [List.range_succ, sealS_snoc]; rfl
theorem oC_succ (n : Nat) : oC k iv b (n + 1) = blk b n := by unfold oC; rw [List.range_succ, openS_snoc]; rfl
theorem oP_succ (n : Nat) : oP k iv b (n + 1) = oP k iv b n ++ xorL (decL k (blk b n)) (oC k iv b n) := by unfold oP oC; rw [List.range_succ, openS_snoc]; rfl
theorem sealO_sP {m : Nat} (hb : b.length = 16 * m) : sealO k iv b = sP k iv b m := by unfold sealO sP; rw [hb, Nat.mul_div_cancel_left _ (by omega)]
theorem openO_oP {m : Nat} (hb : b.length = 16 * m) : openO k iv b = oP k iv b m := by unfold openO oP; rw [hb, Nat.mul_div_cancel_left _ (by omega)]
theorem sP_len (m : Nat) : (sP k iv b m).length = 16 * m := grow_len (P := sP k iv b) (c := fun n => sC k iv b (n + 1)) rfl (sP_succ k iv b) (m := m) (fun _ _ => by rw [sC_succ]; exact encL_len _ _) m (Nat.le_refl _)
theorem oP_len (m : Nat) : (oP k iv b m).length = 16 * m := grow_len (P := oP k iv b) (c := fun n => xorL (decL k (blk b n)) (oC k iv b n)) rfl (oP_succ k iv b) (m := m) (fun _ _ => xorL_len _ _) m (Nat.le_refl _)
theorem sP_blk (m n : Nat) (hn : n < m) : blk (sP k iv b m) n = sC k iv b (n + 1) := grow_blk (P := sP k iv b) (c := fun n => sC k iv b (n + 1)) rfl (sP_succ k iv b) (fun n _ => by rw [sC_succ]; exact encL_len _ _) n hn
theorem oP_blk (m n : Nat) (hn : n < m) : blk (oP k iv b m) n = xorL (decL k (blk b n)) (oC k iv b n) := grow_blk (P := oP k iv b) (c := fun n => xorL (decL k (blk b n)) (oC k iv b n)) rfl (oP_succ k iv b) (fun n _ => xorL_len _ _) n hn
end

theorem open_seal (k iv b : List UInt8) (m : Nat) (hb : b.length = 16 * m) : openO k iv (sealO k iv b) = b := by
  rw [sealO_sP k iv b hb, openO_oP k iv _ (sP_len k iv b m)]
  have hc : ∀ n, n ≤ m → oC k iv (sP k iv b m) n = sC k iv b n := fun n hn => by
    cases n with
    | zero => rw [oC_zero, sC_zero]
    | succ n => rw [oC_succ, sP_blk k iv b m n (by omega)]
  have hp : ∀ n, n ≤ m → oP k iv (sP k iv b m) n = b.take (16 * n) := fun n => by
    induction n with
    | zero => intro _; rfl
    | succ n ih =>
      intro hn
      rw [oP_succ, ih (by omega), hc n (by omega), sP_blk k iv b m n (by omega), take_blk, sC_succ, decL_encL _ _ (xorL_len _ _), xorL_xorL _ _ (blk_len hb (by omega))]
  rw [hp m (Nat.le_refl _), ← hb, List.take_length]
theorem seal_open (k iv b : List UInt8) (m : Nat) (hb : b.length = 16 * m) : sealO k iv (openO k iv b) = b := by
  rw [openO_oP k iv b hb, sealO_sP k iv _ (oP_len k iv b m)]
  have hc : ∀ n, n ≤ m → sC k iv (oP k iv b m) n = oC k iv b n := fun n => by
    induction n with
    | zero => intro _; rw [oC_zero, sC_zero]
    | succ n ih =>
      intro hn
      rw [sC_succ, oP_blk k iv b m n (by omega), ih (by omega), oC_succ, xorL_xorL _ _ (decL_len _ _), encL_decL _ _ (blk_len hb (by omega))]
  have hp : ∀ n, n ≤ m → sP k iv (oP k iv b m) n = b.take (16 * n) := fun n => by
    induction n with
    | zero => intro _; rfl
    | succ n ih =>
      intro hn
      rw [sP_succ, ih (by omega), hc (n + 1) hn, oC_succ, take_blk]
  rw [hp m (Nat.le_refl _), ← hb, List.take_length]

/-! A change of one block. -/
theorem seal_change (k iv p c : List UInt8) (m : Nat) (hp : p.length = 16 * m) (hc : c.length = 16 * m) (n : Nat) (hn : n ≤ m) (h : ∀ j, j < n → blk p j = blk c j) : (sealO k iv p).take (16 * n) = (sealO k iv c).take (16 * n) := by
  have g : ∀ q : List UInt8, (sP k iv q m).take (16 * n) = sP k iv q n := fun q => grow_take (P := sP k iv q) (c := fun n => sC k iv q (n + 1)) rfl (sP_succ k iv q) (fun n _ => by rw [sC_succ]; exact encL_len _ _) n hn
  rw [sealO_sP k iv p hp, sealO_sP k iv c hc, g p, g c]
  have e : ∀ j, j ≤ n → sC k iv p j = sC k iv c j := fun j => by
    induction j with
    | zero => intro _; rw [sC_zero, sC_zero]
    | succ j ih => intro hj; rw [sC_succ, sC_succ, ih (by omega), h j (by omega)]
  have e2 : ∀ j, j ≤ n → sP k iv p j = sP k iv c j := fun j => by
    induction j with
    | zero => intro _; rw [sP_zero, sP_zero]
    | succ j ih => intro hj; rw [sP_succ, sP_succ, ih (by omega), e (j + 1) hj]
  exact e2 n (Nat.le_refl _)
theorem open_change (k iv p c : List UInt8) (m : Nat) (hp : p.length = 16 * m) (hc : c.length = 16 * m) (n : Nat) (hn : n ≤ m) (h : ∀ j, j < n → blk p j = blk c j) : (openO k iv p).take (16 * n) = (openO k iv c).take (16 * n) := by
  have g : ∀ q : List UInt8, (oP k iv q m).take (16 * n) = oP k iv q n := fun q => grow_take (P := oP k iv q) (c := fun n => xorL (decL k (blk q n)) (oC k iv q n)) rfl (oP_succ k iv q) (fun n _ => xorL_len _ _) n hn
  rw [openO_oP k iv p hp, openO_oP k iv c hc, g p, g c]
  have e : ∀ j, j ≤ n → oC k iv p j = oC k iv c j := fun j hj => by
    cases j with
    | zero => rw [oC_zero, oC_zero]
    | succ j => rw [oC_succ, oC_succ, h j (by omega)]
  have e2 : ∀ j, j ≤ n → oP k iv p j = oP k iv c j := fun j => by
    induction j with
    | zero => intro _; rw [oP_zero, oP_zero]
    | succ j ih => intro hj; rw [oP_succ, oP_succ, ih (by omega), e j (by omega), h j (by omega)]
  exact e2 n (Nat.le_refl _)
theorem open_behind (k iv p c : List UInt8) (m : Nat) (hp : p.length = 16 * m) (hc : c.length = 16 * m) (n : Nat) (hn : n + 2 ≤ m) (h : ∀ j, ¬ j = n → blk p j = blk c j) : (openO k iv p).drop (16 * (n + 2)) = (openO k iv c).drop (16 * (n + 2)) := by
  rw [openO_oP k iv p hp, openO_oP k iv c hc]
  refine grow_drop (P := oP k iv p) (Q := oP k iv c) (c := fun n => xorL (decL k (blk p n)) (oC k iv p n)) (d := fun n => xorL (decL k (blk c n)) (oC k iv c n)) rfl (oP_succ k iv p) rfl (oP_succ k iv c) (fun n _ => xorL_len _ _) (fun n _ => xorL_len _ _) (n + 2) (fun j hj => ?_) m hn (Nat.le_refl _)
  obtain ⟨q, rfl⟩ : ∃ q, j = q + 1 := ⟨j - 1, by omega⟩
  show xorL (decL k (blk p (q + 1))) (oC k iv p (q + 1)) = xorL (decL k (blk c (q + 1))) (oC k iv c (q + 1))
  rw [oC_succ, oC_succ, h (q + 1) (by omega), h q (by omega)]
end Go.Proofs.Ytmpcjaoemfnjcaa
