/- Layer 14: what the listed table gives. -/
import Derived.Test.YtdpiehhblflacaaDoorIdent
import Derived.Test.YtdpiehhblflacaaDoorRows
import Derived.LaidMore
import Derived.OpenShut
import Derived.ProofKit
import Derived.Lib.LaidTab
import Derived.Stop.Joined
namespace Go.Proofs.YtdpiehhblflacaaDoor
open Go.ChangeShapes Go.WideShapes Go.ChangeAt Go.RowKit

abbrev laidL : List (String × DataW Unit) := [("traveldoc/securityinfo.endings", Rows.laid_traveldoc_securityinfo_endings)]
theorem gEnd : Tryd.prog.globalNamed "traveldoc/securityinfo.endings" = some 0 := by kernel_rfl
theorem tEnd : (Tryd.prog.globals[0]?).map (·.type) = some 91 := by kernel_rfl
theorem tabE_of_laid {W : World} (h : laidMetH Tryd.prog laidL W) : TabE W := by
  rw [MakeChecks.laidMetH_plain _ _ _ (by kernel_rfl)] at h
  obtain ⟨ps, ⟨g0, t0, cs0, f0, p0, q0, hg0, ht0, hv0, hd0, _, _⟩, _, _⟩ := h
  obtain rfl := Option.some.inj (gEnd.symm.trans hg0)
  obtain rfl := Option.some.inj (tEnd.symm.trans ht0)
  obtain ⟨xs, m1, rfl, hx1, hlen, hn3, hel⟩ := DataW.trod_array Tryd.underlying91 hd0
  have c2 : Tryd.prog.cellsOf 90 = 2 := by kernel_rfl
  have c14 : Tryd.prog.cellsOf 91 = 14 := by kernel_rfl
  have c1 : Tryd.prog.cellsOf 5 = 1 := by kernel_rfl
  rw [c2] at hel
  have key : ∀ i, i < 7 → (cs0.toList.drop (i * 2)).take 2 = [U8 (gb endT (i * 2)), U8 (gb endT (i * 2 + 1))] := by
    intro i hi
    have h0 := hel i hi
    rw [List.getElem?_eq_getElem (by omega)] at h0
    have hd : xs[i].1 = Lib.tabData .u8 [bv (gb endT (i * 2)), bv (gb endT (i * 2 + 1))] := by
      have e : (xs.map (·.1))[i]? = [Lib.tabData (H := Unit) .u8 [0, 0], Lib.tabData .u8 [0, 0], Lib.tabData .u8 [4, 1], Lib.tabData .u8 [4, 2], Lib.tabData .u8 [3, 1], Lib.tabData .u8 [2, 1], Lib.tabData .u8 [5, 1]][i]? := by
        have := (DataW.agg.inj (Prod.mk.inj hx1).1).symm
        rw [this]
        rfl
      rw [List.getElem?_map, List.getElem?_eq_getElem (by omega)] at e
      obtain rfl | rfl | rfl | rfl | rfl | rfl | rfl : i = 0 ∨ i = 1 ∨ i = 2 ∨ i = 3 ∨ i = 4 ∨ i = 5 ∨ i = 6 := by omega
      all_goals exact Option.some.inj e
    have h1 := Lib.cells_of_tab Tryd.underlying90 Tryd.underlying5 c1 c2 (h0.trans (by rw [show xs[i] = (xs[i].1, xs[i].2) from rfl, hd]))
    rw [h1]
    rfl
  have hl : cs0.size = 14 := by rw [← Array.length_toList, hlen, c14]
  intro i hi
  rw [World.var?_cell hg0 hv0 i, ← Array.getElem?_toList]
  have hk := key (i / 2) (by omega)
  have e : cs0.toList[i]? = ((cs0.toList.drop (i / 2 * 2)).take 2)[i % 2]? := by
    rw [List.getElem?_take, if_pos (by omega), List.getElem?_drop]
    rw [show i / 2 * 2 + i % 2 = i by omega]
  rw [e, hk]
  rcases Nat.mod_two_eq_zero_or_one i with h2 | h2
  · rw [h2]
    have : i / 2 * 2 = i := by omega
    rw [this]; rfl
  · rw [h2]
    have : i / 2 * 2 + 1 = i := by omega
    rw [this]; rfl
end Go.Proofs.YtdpiehhblflacaaDoor
