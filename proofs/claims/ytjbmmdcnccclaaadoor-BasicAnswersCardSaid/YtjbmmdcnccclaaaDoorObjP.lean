/- Layer 2, plain: what objP says, outcome by outcome. -/
import Derived.Test.YtjbmmdcnccclaaaDoorQParse
namespace Go.Proofs.YtjbmmdcnccclaaaDoor
open Go.RowKit

section
variable {st : Bool} {n : Nat} {l : List UInt8} {d c : Nat} {t : Int} {k : Nat} (ht : tagP l = .ok (t, k))
include ht
theorem obj_e1 {er : Int} (hs : sizeP (l.drop k) (tagC t && !st) st = .error er) : objP st n l d c = .error er := by unfold objP objF; rw [ht]; simp only [hs]
variable {m : Int} {j : Nat} (hs : sizeP (l.drop k) (tagC t && !st) st = .ok (m, j))
include hs
theorem obj_e2 (h : 8 < d) : objP st n l d c = .error 7 := by unfold objP objF; rw [ht]; simp only [hs]; rw [if_pos h]
theorem obj_e3 (h : ¬ 8 < d) (h2 : 256 < c + 1) : objP st n l d c = .error 2 := by unfold objP objF; rw [ht]; simp only [hs]; rw [if_neg h, if_pos h2]
theorem obj_e4 (h : ¬ 8 < d) (h2 : ¬ 256 < c + 1) (h3 : ((l.drop (k + j)).length : Int) < m) : objP st n l d c = .error 6 := by unfold objP objF; rw [ht]; simp only [hs]; rw [if_neg h, if_neg h2, if_pos h3]
variable (h : ¬ 8 < d) (h2 : ¬ 256 < c + 1) (h3 : ¬ ((l.drop (k + j)).length : Int) < m)
include h h2 h3
theorem obj_ie {er : Int} (h4 : m < 0) (hr : listP st n (l.drop (k + j)) (d + 1) (c + 1) true = .error er) : objP st n l d c = .error er := by unfold objP objF; rw [ht]; simp only [hs]; rw [if_neg h, if_neg h2, if_neg h3, if_pos h4, hr]
theorem obj_i {r : Lst} (h4 : m < 0) (hr : listP st n (l.drop (k + j)) (d + 1) (c + 1) true = .ok r) : objP st n l d c = .ok ⟨t, [], r.list, k + j + r.used, r.count⟩ := by unfold objP objF; rw [ht]; simp only [hs]; rw [if_neg h, if_neg h2, if_neg h3, if_pos h4, hr]
theorem obj_ce {er : Int} (h4 : ¬ m < 0) (h5 : tagC t = true) (hr : listP st n ((l.drop (k + j)).take m.toNat) (d + 1) (c + 1) false = .error er) : objP st n l d c = .error er := by unfold objP objF; rw [ht]; simp only [hs]; rw [if_neg h, if_neg h2, if_neg h3, if_neg h4, if_pos h5, hr]
theorem obj_c {r : Lst} (h4 : ¬ m < 0) (h5 : tagC t = true) (hr : listP st n ((l.drop (k + j)).take m.toNat) (d + 1) (c + 1) false = .ok r) : objP st n l d c = .ok ⟨t, [], r.list, k + j + m.toNat, r.count⟩ := by unfold objP objF; rw [ht]; simp only [hs]; rw [if_neg h, if_neg h2, if_neg h3, if_neg h4, if_pos h5, hr]
theorem obj_p (h4 : ¬ m < 0) (h5 : ¬ tagC t = true) : objP st n l d c = .ok ⟨t, (l.drop (k + j)).take m.toNat, .nil, k + j + m.toNat, c + 1⟩ := by unfold objP objF; rw [ht]; simp only [hs]; rw [if_neg h, if_neg h2, if_neg h3, if_neg h4, if_neg h5]
end
end Go.Proofs.YtjbmmdcnccclaaaDoor
