/- Layer 20: what the listed tables give -/
import Derived.LaidMore
import Derived.Lib.LaidTab
import Derived.OpenShut
import Derived.ProofKit
import Derived.Stop.Joined
import Derived.Test.YtalmmiojbmpmiaaGreatDoorRows
import Derived.Test.YtalmmiojbmpmiaaGreatDoorPt
set_option linter.all false
namespace Go.Proofs.YtalmmiojbmpmiaaGreatDoor
open Go.ChangeShapes Go.WideShapes Go.ChangeAt Go.RowKit
def j4c:List Int:=j1y.map fun x=>(x.toNat:Int)
abbrev ZX:List (String×DataW Unit):=[("traveldoc/traveldocref04.constants",Rows.laid_traveldoc_traveldocref04_constants),("traveldoc/digest.constants",Rows.laid_traveldoc_digest_constants)]
theorem j7h:(Rows.laid_traveldoc_digest_constants:DataW Unit)=Lib.tabData .u32 j4c:=by kernel_rfl
theorem j7i:(Rows.laid_traveldoc_traveldocref04_constants:DataW Unit)=Lib.tabData .u32 j4c:=by kernel_rfl
theorem gD:Tryz.prog.globalNamed "traveldoc/digest.constants" =some 0:=by kernel_rfl
theorem gR:Tryz.prog.globalNamed "traveldoc/traveldocref04.constants" =some 1:=by kernel_rfl
theorem tD:(Tryz.prog.globals[0]?).map (·.type)=some 142:=by kernel_rfl
theorem tR:(Tryz.prog.globals[1]?).map (·.type)=some 142:=by kernel_rfl
theorem c32:Tryz.prog.cellsOf 113=1:=by kernel_rfl
theorem c64:Tryz.prog.cellsOf 142=64:=by kernel_rfl
theorem j2w:j4c.length=64:=rfl
theorem j53{j:Nat}(hj:j<64):j4c.getD j 0=wv (j1y.getD j 0):=by
 have hl:j1y.length=64:=rfl
 unfold j4c
 rw [List.getD_eq_getElem?_getD,List.getD_eq_getElem?_getD,List.getElem?_map,List.getElem?_eq_getElem (by omega)]
 rfl
theorem j0z{W:World}{name:String}{g:Nat}(hg:Tryz.prog.globalNamed name=some g)(h:Lib.TabIs Tryz.prog W name .u32 j4c){j:Nat}(hj:j<64):W.cell? ⟨g,j,none⟩=some (W32 (j1y.getD j 0)):=by
 rw [h.cell hg j (by rw [j2w];exact hj),j53 hj]
theorem UA{P:Program}{x:String×DataW Unit}{r:List (String×DataW Unit)}{w:World}(h:laidMet P (x :: r) w):laidMet P r w:=by
 obtain⟨ps,hv,hnd,hrows⟩:=h
 obtain⟨n,d⟩:=x
 obtain⟨g,t,cs,fuel,p,q,_,_,_,_,hq,rfl⟩:=hv
 exact⟨q,hq,List.Nodup.sublist (List.sublist_append_right _ _) hnd,fun b off hm=>hrows b off (List.mem_append_right _ hm)⟩
theorem Uz{W:World}(h:laidMetH Tryz.prog ZX W):KR W/\KD W:=by
 rw [MakeChecks.laidMetH_plain _ _ _ (by kernel_rfl)]at h
 rw [show ZX=("traveldoc/traveldocref04.constants",Lib.tabData .u32 j4c) :: [("traveldoc/digest.constants",Lib.tabData .u32 j4c)] from by unfold ZX;rw [j7i,j7h]]at h
 exact⟨fun j hj=>j0z gR (Lib.tabIs_of_head gR tR Tryz.underlying142 Tryz.underlying113 c32 c64 h) hj,fun j hj=>j0z gD (Lib.tabIs_of_head gD tD Tryz.underlying142 Tryz.underlying113 c32 c64 (UA h)) hj⟩
end Go.Proofs.YtalmmiojbmpmiaaGreatDoor
