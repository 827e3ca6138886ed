/- Rows of objects of the call's own: what they read as, and append of one object. -/
import Derived.Test.YtjbmmdcnccclaaaDoorTree
import Derived.Test.YtjbmmdcnccclaaaDoorClone
import Derived.Maps.AppendAt
namespace Go.Proofs.YtjbmmdcnccclaaaDoor
open Go.RowKit

theorem Ns.app_nil (l : Ns) : l.app .nil = l := by
  induction l with
  | nil => rfl
  | cons t v k r _ ih => simp [Ns.app, ih]
theorem Ns.app_assoc (a b c : Ns) : (a.app b).app c = a.app (b.app c) := by
  induction a with
  | nil => rfl
  | cons t v k r _ ih => simp [Ns.app, ih]
theorem Ns.len_snoc (l : Ns) (t : Int) (v : List UInt8) (k : Ns) : (l.app (.cons t v k .nil)).len = l.len + 1 := by rw [Ns.len_app]; rfl
/-- The values xs, three an object, read as the objects L. -/
def EachN (w : World) (S : Nat → Prop) : Ns → List Value → Prop
  | .nil, xs => xs = []
  | .cons t v k r, xs => ∃ x y xs', xs = .int .i64 t :: x :: y :: xs' ∧ I64in t ∧ BsS w S x v ∧ NsS w S y k ∧ EachN w S r xs'
theorem EachN.keep {w w' : World} {S S' : Nat → Prop} (hk : ∀ b, S b → b < w.heap.size → w'.heap[b]? = w.heap[b]? ∧ S' b) : ∀ (L : Ns) (xs : List Value), EachN w S L xs → EachN w' S' L xs := by
  intro L
  induction L with
  | nil => intro xs h; exact h
  | cons t v k r _ ih =>
    intro xs ⟨x, y, xs', e, hi, hv, hn, hr⟩
    exact ⟨x, y, xs', e, hi, hv.keep hk, hn.keep hk, ih xs' hr⟩
theorem EachN.snoc {w : World} {S : Nat → Prop} : ∀ (L : Ns) (xs : List Value), EachN w S L xs → ∀ {t : Int} {v : List UInt8} {k : Ns} {x y : Value}, I64in t → BsS w S x v → NsS w S y k → EachN w S (L.app (.cons t v k .nil)) (xs ++ [.int .i64 t, x, y]) := by
  intro L
  induction L with
  | nil => intro xs h t v k x y hi hv hn; have h : xs = [] := h; subst h; exact ⟨x, y, [], rfl, hi, hv, hn, rfl⟩
  | cons t' v' k' r _ ih =>
    intro xs ⟨x', y', xs', e, hi', hv', hn', hr⟩ t v k x y hi hv hn
    subst e
    exact ⟨x', y', _, rfl, hi', hv', hn', ih xs' hr hi hv hn⟩
theorem NsS.form3 {w : World} {S : Nat → Prop} {v : Value} {l : Ns} (h : NsS w S v l) : ∃ A c, v = .slice A l.len c := by
  obtain ⟨a, c, hv, _⟩ := h; exact ⟨a, c, hv⟩
theorem NsAt.of_each {w : World} {S : Nat → Prop} {g : Nat} : ∀ (L : Ns) (xs : List Value) (off : Nat), EachN w S L xs → (∀ j x, xs[j]? = some x → w.cell? ⟨g, off + j, none⟩ = some x) → NsAt w S L g off := by
  intro L
  induction L with
  | nil => intros; trivial
  | cons t v k r _ ih =>
    intro xs off ⟨x, y, xs', e, hi, hv, hn, hr⟩ hc
    subst e
    obtain ⟨a, c, rfl, h1, h2, h3, h4⟩ := hn
    refine ⟨hc 0 _ rfl, hi, ⟨x, hc 1 _ rfl, hv⟩, ⟨a, c, hc 2 _ rfl, h1, h2, h3, h4⟩, ih xs' (off + 3) hr fun j x hj => ?_⟩
    have := hc (3 + j) x (by rw [Nat.add_comm]; simpa using hj)
    rwa [← Nat.add_assoc] at this
/-- The blocks of a world from base on, but the one that a row of its own lies in. -/
def OffN (base : Nat) (w : World) (v : Value) (b : Nat) : Prop := b < w.heap.size ∧ v.ownBlock ≠ some b ∧ base ≤ b
end Go.Proofs.YtjbmmdcnccclaaaDoor
