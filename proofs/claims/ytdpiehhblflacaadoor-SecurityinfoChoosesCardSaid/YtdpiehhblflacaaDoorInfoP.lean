/- Layer 14, plain: the fields of an info, one after the other. -/
import Derived.Test.YtdpiehhblflacaaDoorInfP
namespace Go.Proofs.YtdpiehhblflacaaDoor

/-- The protocol that the identifiers up to a place give. -/
def protU (v : List UInt8) : Nat → Int
  | 0 => 0
  | j + 1 => if v = identB (2 + j) then 2 + j else protU v j
theorem protU_five (v : List UInt8) : protU v 5 = protP v := by
  have d : ∀ a b : Int, 2 ≤ a → a ≤ 6 → 2 ≤ b → b ≤ 6 → identB a = identB b → a = b := by
    intro a b a0 a1 b0 b1 h
    obtain rfl | rfl | rfl | rfl | rfl : a = 2 ∨ a = 3 ∨ a = 4 ∨ a = 5 ∨ a = 6 := by omega
    all_goals obtain rfl | rfl | rfl | rfl | rfl : b = 2 ∨ b = 3 ∨ b = 4 ∨ b = 5 ∨ b = 6 := by omega
    all_goals first | rfl | exact absurd h (by decide)
  have e : ∀ j : Nat, j < 5 → v = identB (2 + j) → protU v 5 = 2 + j ∧ protP v = 2 + j := by
    intro j hj h
    subst h
    obtain rfl | rfl | rfl | rfl | rfl : j = 0 ∨ j = 1 ∨ j = 2 ∨ j = 3 ∨ j = 4 := by omega
    all_goals exact ⟨by decide, by decide⟩
  by_cases h : ∃ j : Nat, j < 5 ∧ v = identB (2 + j)
  · obtain ⟨j, hj, h⟩ := h
    rw [(e j hj h).1, (e j hj h).2]
  · have n : ∀ j : Nat, j < 5 → ¬ v = identB (2 + j) := fun j hj hv => h ⟨j, hj, hv⟩
    have n0 : ¬ v = identB 2 := n 0 (by omega)
    have n1 : ¬ v = identB 3 := n 1 (by omega)
    have n2 : ¬ v = identB 4 := n 2 (by omega)
    have n3 : ¬ v = identB 5 := n 3 (by omega)
    have n4 : ¬ v = identB 6 := n 4 (by omega)
    unfold protP
    rw [if_neg n0, if_neg n1, if_neg n2, if_neg n3, if_neg n4]
    simp only [protU]
    rw [if_neg (n 4 (by omega)), if_neg (n 3 (by omega)), if_neg (n 2 (by omega)), if_neg (n 1 (by omega)), if_neg (n 0 (by omega))]
/-- What a field of an info wants: its tag, its size, and which number it is. -/
abbrev Fld := Int × Nat × Nat
def updF (f : Nat → Int) (o : Nat) (z : Int) : Nat → Int := fun j => if j = o then z else f j
/-- The fields read one after the other. -/
def fillP : List Fld → Ns → (Nat → Int) → Option (Nat → Int)
  | [], .nil, f => some f
  | (t, s, o) :: fs, .cons t' v _ r, f => if t' = t ∧ v.length = s then fillP fs r (updF f o (numV v)) else none
  | _, _, _ => none
def formP (p : Int) : List Fld := (2, 1, 1) :: (if p = 2 ∨ p = 3 then [(2, 1, 2)] else if p = 4 then [(4, 4, 3), (2, 1, 4)] else [])
def infF (f : Nat → Int) : Inf := ⟨f 0, f 1, f 2, f 3, f 4⟩
def f0P (p : Int) : Nat → Int := fun j => if j = 0 then p else 0
theorem fillP_len : ∀ (fs : List Fld) (K : Ns) (f : Nat → Int), ¬ K.len = fs.length → fillP fs K f = none := by
  intro fs
  induction fs with
  | nil => intro K f h; cases K with
    | nil => exact absurd rfl h
    | cons t v k r => rfl
  | cons a fs ih =>
    intro K f h
    obtain ⟨t, s, o⟩ := a
    cases K with
    | nil => rfl
    | cons t' v k r =>
      simp only [fillP]
      split
      · exact ih _ _ (by simpa [Ns.len] using h)
      · rfl
theorem fieldsP_fill (p : Int) (h : ¬ p = 0) (K : Ns) : fieldsP p K = (fillP (formP p) K (f0P p)).map infF := by
  cases K with
  | nil => rfl
  | cons t1 v1 k1 r =>
    unfold formP
    simp only [fieldsP]
    rw [if_neg h]
    by_cases h2 : p = 2 ∨ p = 3
    · rw [if_pos h2, if_pos h2]
      simp only [fillP]
      cases r with
      | nil => simp only [fillP]; split <;> rfl
      | cons t2 v2 k2 r2 =>
        cases r2 with
        | cons t3 v3 k3 r3 => simp only [fillP]; (repeat' split) <;> rfl
        | nil =>
          simp only [fillP]
          by_cases h3 : t1 = 2 ∧ v1.length = 1
          · by_cases h4 : t2 = 2 ∧ v2.length = 1
            · rw [if_pos ⟨h3.1, h3.2, h4.1, h4.2⟩, if_pos h3, if_pos h4]; rfl
            · rw [if_neg (fun h => h4 ⟨h.2.2.1, h.2.2.2⟩), if_pos h3, if_neg h4]; rfl
          · rw [if_neg (fun h => h3 ⟨h.1, h.2.1⟩), if_neg h3]; rfl
    · rw [if_neg h2, if_neg h2]
      by_cases h4 : p = 4
      · rw [if_pos h4, if_pos h4]
        simp only [fillP]
        cases r with
        | nil => simp only [fillP]; split <;> rfl
        | cons t2 v2 k2 r2 =>
          cases r2 with
          | nil => simp only [fillP]; (repeat' split) <;> rfl
          | cons t3 v3 k3 r3 =>
            cases r3 with
            | cons t5 v5 k5 r5 => simp only [fillP]; (repeat' split) <;> rfl
            | nil =>
              simp only [fillP]
              by_cases h3 : t1 = 2 ∧ v1.length = 1
              · by_cases h5 : t2 = 4 ∧ v2.length = 4
                · by_cases h6 : t3 = 2 ∧ v3.length = 1
                  · rw [if_pos ⟨h3.1, h3.2, h5.1, h5.2, h6.1, h6.2⟩, if_pos h3, if_pos h5, if_pos h6]; rfl
                  · rw [if_neg (fun h => h6 ⟨h.2.2.2.2.1, h.2.2.2.2.2⟩), if_pos h3, if_pos h5, if_neg h6]; rfl
                · rw [if_neg (fun h => h5 ⟨h.2.2.1, h.2.2.2.1⟩), if_pos h3, if_neg h5]; rfl
              · rw [if_neg (fun h => h3 ⟨h.1, h.2.1⟩), if_neg h3]; rfl
      · rw [if_neg h4, if_neg h4]
        simp only [fillP]
        cases r with
        | cons t2 v2 k2 r2 => simp only [fillP]; split <;> rfl
        | nil =>
          simp only [fillP]
          by_cases h3 : t1 = 2 ∧ v1.length = 1
          · rw [if_pos h3, if_pos h3]; rfl
          · rw [if_neg h3, if_neg h3]; rfl
/-- What an info's reader answers. -/
def infoA (t : Int) (kids : Ns) : Inf × Bool := match infoP t kids with
  | some x => (x, true)
  | none => (⟨0, 0, 0, 0, 0⟩, false)
end Go.Proofs.YtdpiehhblflacaaDoor
