/- Layer 20: what the listed tables give -/
import Derived.LaidMore
import Derived.Lib.LaidTab
import Derived.OpenShut
import Derived.ProofKit
import Derived.Stop.Joined
import Derived.Test.YtalmmiojbmpmiaaGreatDoorRows
import Derived.Test.YtalmmiojbmpmiaaGreatDoorPo
set_option linter.all false
namespace Go.Proofs.YtalmmiojbmpmiaaGreatDoor
open Go.ChangeShapes Go.WideShapes Go.ChangeAt Go.RowKit
def j46:List Int:=j1p.map fun x=>(x.toNat:Int)
abbrev ZM:List (String×DataW Unit):=[("traveldoc/traveldocref04.constants",Rows.laid_traveldoc_traveldocref04_constants),("traveldoc/digest.constants",Rows.laid_traveldoc_digest_constants)]
theorem j7c:(Rows.laid_traveldoc_digest_constants:DataW Unit)=Lib.tabData .u32 j46:=by kernel_rfl
theorem j7d:(Rows.laid_traveldoc_traveldocref04_constants:DataW Unit)=Lib.tabData .u32 j46:=by kernel_rfl
theorem gD:Tryz.prog.globalNamed "traveldoc/digest.constants" =some 0:=by kernel_rfl
theorem gR:Tryz.prog.globalNamed "traveldoc/traveldocref04.constants" =some 1:=by kernel_rfl
theorem tD:(Tryz.prog.globals[0]?).map (·.type)=some 142:=by kernel_rfl
theorem tR:(Tryz.prog.globals[1]?).map (·.type)=some 142:=by kernel_rfl
theorem c32:Tryz.prog.cellsOf 113=1:=by kernel_rfl
theorem c64:Tryz.prog.cellsOf 142=64:=by kernel_rfl
theorem j2l:j46.length=64:=rfl
theorem j50{j:Nat}(hj:j<64):j46.getD j 0=wv (j1p.getD j 0):=by
 have hl:j1p.length=64:=rfl
 unfold j46
 rw [List.getD_eq_getElem?_getD,List.getD_eq_getElem?_getD,List.getElem?_map,List.getElem?_eq_getElem (by omega)]
 rfl
theorem j0s{W:World}{name:String}{g:Nat}(hg:Tryz.prog.globalNamed name=some g)(h:Lib.TabIs Tryz.prog W name .u32 j46){j:Nat}(hj:j<64):W.cell? ⟨g,j,none⟩=some (W32 (j1p.getD j 0)):=by
 rw [h.cell hg j (by rw [j2l];exact hj),j50 hj]
theorem Uy{P:Program}{x:String×DataW Unit}{r:List (String×DataW Unit)}{w:World}(h:laidMet P (x :: r) w):laidMet P r w:=by
 obtain⟨ps,hv,hnd,hrows⟩:=h
 obtain⟨n,d⟩:=x
 obtain⟨g,t,cs,fuel,p,q,_,_,_,_,hq,rfl⟩:=hv
 exact⟨q,hq,List.Nodup.sublist (List.sublist_append_right _ _) hnd,fun b off hm=>hrows b off (List.mem_append_right _ hm)⟩
theorem Ux{W:World}(h:laidMetH Tryz.prog ZM W):KR W/\KD W:=by
 rw [MakeChecks.laidMetH_plain _ _ _ (by kernel_rfl)]at h
 rw [show ZM=("traveldoc/traveldocref04.constants",Lib.tabData .u32 j46) :: [("traveldoc/digest.constants",Lib.tabData .u32 j46)] from by unfold ZM;rw [j7d,j7c]]at h
 exact⟨fun j hj=>j0s gR (Lib.tabIs_of_head gR tR Tryz.underlying142 Tryz.underlying113 c32 c64 h) hj,fun j hj=>j0s gD (Lib.tabIs_of_head gD tD Tryz.underlying142 Tryz.underlying113 c32 c64 (Uy h)) hj⟩
end Go.Proofs.YtalmmiojbmpmiaaGreatDoor
