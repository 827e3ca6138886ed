/- Layer 20: what the listed tables give. -/
import Derived.Test.YtnogcnmoeekcpaaDoorRDig
import Derived.Test.YtnogcnmoeekcpaaDoorRows
import Derived.LaidMore
import Derived.OpenShut
import Derived.ProofKit
import Derived.Lib.LaidTab
import Derived.Stop.Joined
namespace Go.Proofs.YtnogcnmoeekcpaaDoor
open Go.ChangeShapes Go.WideShapes Go.ChangeAt Go.RowKit

/-- The table's numbers. -/
def kInt : List Int := kTab.map fun x => (x.toNat : Int)
abbrev laid1 : List (String × DataW Unit) := [("traveldoc/digest.constants", Rows.laid_traveldoc_digest_constants)]
abbrev laid2 : List (String × DataW Unit) := [("traveldoc/traveldocref04.constants", Rows.laid_traveldoc_traveldocref04_constants), ("traveldoc/digest.constants", Rows.laid_traveldoc_digest_constants)]
theorem laidD : (Rows.laid_traveldoc_digest_constants : DataW Unit) = Lib.tabData .u32 kInt := by kernel_rfl
theorem laidR : (Rows.laid_traveldoc_traveldocref04_constants : DataW Unit) = Lib.tabData .u32 kInt := by kernel_rfl
theorem gD : Tryd.prog.globalNamed "traveldoc/digest.constants" = some 0 := by kernel_rfl
theorem gR : Tryd.prog.globalNamed "traveldoc/traveldocref04.constants" = some 1 := by kernel_rfl
theorem tD : (Tryd.prog.globals[0]?).map (·.type) = some 72 := by kernel_rfl
theorem tR : (Tryd.prog.globals[1]?).map (·.type) = some 72 := by kernel_rfl
theorem c32 : Tryd.prog.cellsOf 62 = 1 := by kernel_rfl
theorem c64 : Tryd.prog.cellsOf 72 = 64 := by kernel_rfl
theorem kInt_len : kInt.length = 64 := rfl
theorem kInt_at {j : Nat} (hj : j < 64) : kInt.getD j 0 = wv (kTab.getD j 0) := by
  have hl : kTab.length = 64 := rfl
  unfold kInt
  rw [List.getD_eq_getElem?_getD, List.getD_eq_getElem?_getD, List.getElem?_map, List.getElem?_eq_getElem (by omega)]
  rfl
theorem row_tab {W : World} {name : String} {g : Nat} (hg : Tryd.prog.globalNamed name = some g) (h : Lib.TabIs Tryd.prog W name .u32 kInt) {j : Nat} (hj : j < 64) : W.cell? ⟨g, j, none⟩ = some (W32 (kTab.getD j 0)) := by
  rw [h.cell hg j (by rw [kInt_len]; exact hj), kInt_at hj]
theorem laidMet_tl {P : Program} {x : String × DataW Unit} {r : List (String × DataW Unit)} {w : World} (h : laidMet P (x :: r) w) : laidMet P r w := by
  obtain ⟨ps, hv, hnd, hrows⟩ := h
  obtain ⟨n, d⟩ := x
  obtain ⟨g, t, cs, fuel, p, q, _, _, _, _, hq, rfl⟩ := hv
  exact ⟨q, hq, List.Nodup.sublist (List.sublist_append_right _ _) hnd, fun b off hm => hrows b off (List.mem_append_right _ hm)⟩
theorem kd_of_laid {W : World} (h : laidMetH Tryd.prog laid1 W) : KD W := by
  rw [MakeChecks.laidMetH_plain _ _ _ (by kernel_rfl)] at h
  rw [show laid1 = ("traveldoc/digest.constants", Lib.tabData .u32 kInt) :: [] from by unfold laid1; rw [laidD]] at h
  exact fun j hj => row_tab gD (Lib.tabIs_of_head gD tD Tryd.underlying72 Tryd.underlying62 c32 c64 h) hj
theorem kk_of_laid {W : World} (h : laidMetH Tryd.prog laid2 W) : KR W ∧ KD W := by
  rw [MakeChecks.laidMetH_plain _ _ _ (by kernel_rfl)] at h
  rw [show laid2 = ("traveldoc/traveldocref04.constants", Lib.tabData .u32 kInt) :: [("traveldoc/digest.constants", Lib.tabData .u32 kInt)] from by unfold laid2; rw [laidR, laidD]] at h
  exact ⟨fun j hj => row_tab gR (Lib.tabIs_of_head gR tR Tryd.underlying72 Tryd.underlying62 c32 c64 h) hj, fun j hj => row_tab gD (Lib.tabIs_of_head gD tD Tryd.underlying72 Tryd.underlying62 c32 c64 (laidMet_tl h)) hj⟩
end Go.Proofs.YtnogcnmoeekcpaaDoor
