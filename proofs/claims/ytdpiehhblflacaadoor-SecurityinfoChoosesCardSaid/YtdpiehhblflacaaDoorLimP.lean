/- Layer 2, plain: objects nested d deep, and k objects side by side. No program is named here. -/
import Derived.Test.YtdpiehhblflacaaDoorQTlv7
import Derived.Test.YtdpiehhblflacaaDoorQTlvF
namespace Go.Proofs.YtdpiehhblflacaaDoor
open Go.RowKit

def nest : Nat → Ns
  | 0 => .nil
  | d + 1 => .cons 48 [] (nest d) .nil
/-- The first j pairs of the bytes of objects nested d deep. -/
def nestB (d : Nat) : Nat → List UInt8
  | 0 => []
  | j + 1 => nestB d j ++ [48, ofI (2 * ((d : Int) - j - 1))]
def flat : Nat → Ns
  | 0 => .nil
  | k + 1 => (flat k).app (.cons 4 [] .nil .nil)
def flatB : Nat → List UInt8
  | 0 => []
  | k + 1 => flatB k ++ [4, 0]
def isErr {α : Type} [BEq α] (r : Except Int α) (e : Int) : Bool := match r with | .error x => x == e | .ok _ => false
def isOk {α : Type} [BEq α] (r : Except Int α) (a : α) : Bool := match r with | .error _ => false | .ok x => x == a
def okAny {α : Type} (r : Except Int α) : Bool := match r with | .error _ => false | .ok _ => true
theorem isErr_eq {r : Except Int (List UInt8)} {e : Int} (h : isErr r e = true) : r = .error e := by
  cases r with
  | error x => rw [eq_of_beq (show (x == e) = true from h)]
  | ok x => cases h
theorem isOk_eq {r : Except Int (List UInt8)} {a : List UInt8} (h : isOk r a = true) : r = .ok a := by
  cases r with
  | error x => cases h
  | ok x => rw [eq_of_beq (show (x == a) = true from h)]
theorem nest_enc (d : Nat) (h1 : 1 ≤ d) (h2 : d ≤ 12) : (d ≤ 8 → encP (nest d) = .ok (nestB d d)) ∧ (8 < d → encP (nest d) = .error 7) := by
  have h : ∀ d : Fin 13, 1 ≤ d.1 → (if d.1 ≤ 8 then isOk (encP (nest d.1)) (nestB d.1 d.1) else isErr (encP (nest d.1)) 7) = true := by decide +kernel
  have := h ⟨d, by omega⟩ h1
  refine ⟨fun h8 => ?_, fun h8 => ?_⟩
  · rw [if_pos h8] at this; exact isOk_eq this
  · rw [if_neg (by simp only; omega)] at this; exact isErr_eq this
theorem nest_parse (d : Nat) (h1 : 1 ≤ d) (h2 : d ≤ 12) : (d ≤ 8 → errOf (parseP (nestB d d) true) = 0) ∧ (8 < d → errOf (parseP (nestB d d) true) = 7) := by
  have h : ∀ d : Fin 13, 1 ≤ d.1 → (if d.1 ≤ 8 then errOf (parseP (nestB d.1 d.1) true) == 0 else errOf (parseP (nestB d.1 d.1) true) == 7) = true := by decide +kernel
  have := h ⟨d, by omega⟩ h1
  refine ⟨fun h8 => ?_, fun h8 => ?_⟩
  · rw [if_pos h8] at this; exact eq_of_beq this
  · rw [if_neg (by simp only; omega)] at this; exact eq_of_beq this
theorem nest_small (d : Nat) (h : d ≤ 11) : (nest (d + 1)).enc.length ≤ 1000000000000 := by
  have h2 : ∀ d : Fin 12, (nest (d.1 + 1)).enc.length ≤ 1000000000000 := by decide +kernel
  exact h2 ⟨d, by omega⟩
theorem nest_all (d : Nat) : (nest d).all = d := by
  induction d with
  | zero => rfl
  | succ d ih => simp only [nest, Ns.all, ih]; omega
theorem flat_cons (k : Nat) : flat (k + 1) = .cons 4 [] .nil (flat k) := by
  induction k with
  | zero => rfl
  | succ k ih =>
    have h : flat (k + 1) = (flat k).app (.cons 4 [] .nil .nil) := rfl
    show (flat (k + 1)).app (.cons 4 [] .nil .nil) = _
    rw [ih, Ns.app, ← h, ih]
theorem flatB_cons (k : Nat) : flatB (k + 1) = 4 :: 0 :: flatB k := by
  induction k with
  | zero => rfl
  | succ k ih =>
    show flatB (k + 1) ++ [4, 0] = _
    have h : flatB k ++ [4, 0] = flatB (k + 1) := rfl
    rw [ih, List.cons_append, List.cons_append, h, ih]
theorem flatB_len (k : Nat) : (flatB k).length = 2 * k := by
  induction k with
  | zero => rfl
  | succ k ih => rw [flatB_cons]; simp [ih]; omega
theorem flat_len (k : Nat) : (flat k).len = k := by
  induction k with
  | zero => rfl
  | succ k ih => rw [flat_cons, Ns.len, ih]
theorem flat_all (k : Nat) : (flat k).all = k := by
  induction k with
  | zero => rfl
  | succ k ih => rw [flat_cons, Ns.all, ih]; simp [Ns.all]; omega
theorem tagV4 : tagV 4 = true := by decide
theorem tagC4 : tagC 4 = false := by decide
theorem flat_chk (k : Nat) : (flat k).chk 1 = 0 := by
  induction k with
  | zero => rfl
  | succ k ih => rw [flat_cons, Ns.chk, tagV4, tagC4]; simp [Ns.len, Ns.chk, ih]
theorem flat_encB (k : Nat) : (flat k).enc = flatB k := by
  induction k with
  | zero => rfl
  | succ k ih => rw [flat_cons, flatB_cons, Ns.enc, tagC4, ih]; rfl
theorem flat_enc (k : Nat) (h : k ≤ 300) : encP (flat k) = if 256 < k then .error 2 else .ok (flatB k) := by
  unfold encP
  rw [if_neg (by rw [flat_chk]; simp), flat_all, flat_encB, flatB_len]
  split
  · rfl
  · rw [if_neg (by omega)]
theorem tag40 (l : List UInt8) : tagP (4 :: 0 :: l) = .ok (4, 1) := by
  have h : bv (gb (4 :: 0 :: l) 0) = 4 := rfl
  unfold tagP
  rw [if_neg (by simp), if_neg (by rw [h]; decide), h, tagV4]; rfl
theorem size40 (l : List UInt8) : sizeP ((4 :: 0 :: l).drop 1) (tagC 4 && !true) true = .ok (0, 1) := by
  have h : bv (gb (0 :: l) 0) = 0 := rfl
  show sizeP (0 :: l) _ true = _
  unfold sizeP
  rw [if_neg (by simp), h, if_pos (by decide)]
theorem flat_list (n : Nat) : ∀ k c : Nat, 2 * k ≤ n → c ≤ 256 → listP true n (flatB k) 1 c false = if 256 < c + k then .error 2 else .ok ⟨flat k, 2 * k, c + k⟩ := by
  induction n using Nat.strongRecOn with
  | ind n ih =>
    intro k c hk hc
    cases k with
    | zero =>
      rw [if_neg (by omega)]
      exact listP_end (u := 0) rfl
    | succ k =>
      obtain ⟨m, rfl⟩ : ∃ m, n = m + 1 := ⟨n - 1, by omega⟩
      have hd : headP (flatB (k + 1)) false = none := by rw [flatB_cons]; simp [headP]
      have ho : objF true (listP true m) (flatB (k + 1)) 1 c = if 256 < c + 1 then .error 2 else .ok ⟨4, [], .nil, 2, c + 1⟩ := by
        have ht : tagP (flatB (k + 1)) = .ok (4, 1) := by rw [flatB_cons]; exact tag40 _
        have hs : sizeP ((flatB (k + 1)).drop 1) (tagC 4 && !true) true = .ok (0, 1) := by rw [flatB_cons]; exact size40 _
        unfold objF
        rw [ht]
        simp only [hs]
        rw [if_neg (by omega)]
        split
        · rfl
        · rw [if_neg (by omega), if_neg (by omega), tagC4]; simp
      rw [listP, hd]
      simp only [ho]
      by_cases h9 : 256 < c + 1
      · rw [if_pos h9, if_pos (by omega)]
      · rw [if_neg h9]
        simp only
        rw [show (flatB (k + 1)).drop 2 = flatB k by rw [flatB_cons]; rfl, ih m (by omega) k (c + 1) (by omega) (by omega)]
        by_cases h10 : 256 < c + (k + 1)
        · rw [if_pos (by omega), if_pos h10]
        · rw [if_neg (by omega), if_neg h10, flat_cons]
          simp only
          congr 2 <;> omega
theorem flat_parse (k : Nat) (h : k ≤ 300) : parseP (flatB k) true = if 256 < k then .error 2 else .ok (flat k) := by
  unfold parseP
  rw [if_neg (by rw [flatB_len]; omega), flat_list _ k 0 (by rw [flatB_len]; omega) (by omega), Nat.zero_add]
  by_cases h2 : 256 < k
  · rw [if_pos h2, if_pos h2]
  · rw [if_neg h2, if_neg h2]
end Go.Proofs.YtdpiehhblflacaaDoor
