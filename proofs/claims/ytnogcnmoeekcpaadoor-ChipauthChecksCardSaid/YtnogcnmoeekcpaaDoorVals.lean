/- n bytes of a function as values; a row of the call's own by its form. No program is named here. -/
import Derived.Test.YtnogcnmoeekcpaaDoorAppend
import Derived.Laws.OwnMore
namespace Go.Proofs.YtnogcnmoeekcpaaDoor
open Go.RowKit

theorem Bs.lenEq {w : World} {S : Nat → Prop} {A : Option Addr} {n c : Nat} {l : List UInt8} (h : BsS w S (.slice A n c) l) : n = l.length := by
  obtain ⟨_, _, hv, _⟩ := h; injection hv
/-- n values as a list. -/
def vals (n : Nat) (f : Nat → UInt8) : List Value := (List.range n).map fun j => U8 (f j)
theorem vals_get (n : Nat) (f : Nat → UInt8) (j : Nat) (h : j < n) : (vals n f)[j]? = some (U8 (f j)) := by simp [vals, h]
theorem vals_set (n : Nat) (f : Nat → UInt8) (j : Nat) (b : UInt8) : (vals n f).set j (U8 b) = vals n fun i => if i = j then b else f i := by
  apply List.ext_getElem?
  intro i
  rw [List.getElem?_set]
  by_cases hi : i < n
  · by_cases h : j = i
    · subst h; simp [vals, hi]
    · rw [if_neg h, vals_get n f i hi, vals_get n _ i hi, if_neg (fun e => h e.symm)]
  · have e1 : (vals n fun i => if i = j then b else f i)[i]? = none := List.getElem?_eq_none (by simp [vals]; omega)
    rw [e1]
    split
    · rw [if_neg (by simp [vals]; omega)]
    · exact List.getElem?_eq_none (by simp [vals]; omega)
theorem vals_of (l : List UInt8) (n : Nat) (h : l.length = n) : l.map U8 = vals n (gb l) := by
  subst h
  apply List.ext_getElem?
  intro i
  rcases Nat.lt_or_ge i l.length with hi | hi
  · rw [mapU8_get l i hi, vals_get _ _ _ hi]
  · rw [List.getElem?_eq_none (by simpa using hi), List.getElem?_eq_none (by simpa [vals] using hi)]
theorem vals_bList (n : Nat) (f : Nat → UInt8) : vals n f = (bList n f).map U8 := by simp [vals, bList]
theorem vals_congr {n : Nat} {f g : Nat → UInt8} (h : ∀ j, j < n → f j = g j) : vals n f = vals n g := by
  unfold vals; exact List.map_congr_left fun j hj => by rw [h j (by simpa using hj)]
theorem vals_upto (n k : Nat) (new old : Nat → UInt8) : (vals n (upto k new old)).set k (U8 (new k)) = vals n (upto (k + 1) new old) := by
  rw [vals_set]
  refine vals_congr fun j _ => ?_
  unfold upto
  by_cases e : j = k
  · subst e; rw [if_pos rfl, if_pos (by omega)]
  · rw [if_neg e]
    by_cases e2 : j < k
    · rw [if_pos e2, if_pos (by omega)]
    · rw [if_neg e2, if_neg (by omega)]

theorem own_cap {w : World} {base : Nat} {e : TypeId} {g n cap : Nat} {xs : List Value} (h : w.ownsRow base e 1 (.slice (some ⟨g, 0, none⟩) n cap) n xs) : n ≤ cap ∧ cap ≤ 9223372036854775807 := by
  rcases h.2 with ⟨h2, _⟩ | ⟨g', cap', cur, hv, _, _, h1, h2, _⟩
  · cases h2
  · injection hv with _ _ h3
    subst h3
    exact ⟨h1, by unfold maxLen at h2; exact h2⟩
theorem own_form16 {w : World} {base : Nat} {e : TypeId} {v : Value} {n : Nat} {xs : List Value} (h : w.ownsRow base e 1 v n xs) (hn : 0 < n) : ∃ g cap, v = .slice (some ⟨g, 0, none⟩) n cap ∧ base ≤ g ∧ g < w.heap.size ∧ n ≤ cap := by
  obtain ⟨g, cap, rfl, h1, h2⟩ := h.form hn
  exact ⟨g, cap, rfl, h1, h2, (own_cap h).1⟩
end Go.Proofs.YtnogcnmoeekcpaaDoor
