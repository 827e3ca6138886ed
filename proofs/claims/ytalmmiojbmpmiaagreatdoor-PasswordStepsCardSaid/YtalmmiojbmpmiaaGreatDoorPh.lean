/- What the form's reading of an argument gives to a walk: a slice of bytes. No program is named here; An argument []int opened -/
import Derived.OpenShut
import Derived.ProofKit
import Derived.ShutString
import Derived.Test.YtalmmiojbmpmiaaGreatDoorPg
set_option linter.all false
namespace Go.Proofs.YtalmmiojbmpmiaaGreatDoor
section
open Go.ChangeShapes Go.WideShapes Go.ChangeAt Go.RowKit
theorem YG{H:Type}(k:IntKind)(zs:List Int):(lits (H:=H) k zs).length=zs.length:=by simp [lits]
theorem j7m{z:Int}(h:(Lit.int .u8 z).wf=true):0<=z/\z<256:=by
 have h1:IntKind.u8.min=0:=rfl
 have h2:IntKind.u8.max=255:=rfl
 simp only [Lit.wf,Bool.and_eq_true,decide_eq_true_eq]at h
 omega
theorem KH{H:Type}{enc:TypeId×Value->H}{P:Program}{t e:TypeId}(ht:P.underlying t=some (.slice e))(he:P.underlying e=some (.int .u8))(hc:P.cellsOf e=1)(hb:P.bytesOf e=1){W:World}{base:Nat}{spare:Nat->Bool}{held:Bool}{a:Option Addr}{len cap:Nat}{d:DataW H}{ps:List MemPlace}(h:DataW.Trod enc P W base spare held t (.slice a len cap) d ps){ts:List TypeId}{ds:List (DataW H)}(hsz:(DataW.weightsEach P ts ds).all (·<=reachBytes)=true){j:Nat}(htj:ts[j]?=some t)(hdj:ds[j]?=some d):
 ∃l:List UInt8,Bs W W.heap.size (.slice a len cap) l/\l.length<=140737488351232:=by
 obtain⟨fuel,hf⟩:=h
 rcases open_ints ht he hc hf with ⟨hcs,_⟩|⟨x,n,c,zs,hcs,_,hl,hm,hz,hx,hcell,hwz⟩
 ·simp [Value.cells]at hcs
  obtain⟨rfl,rfl,rfl⟩:=hcs
  exact⟨[],Bs.nil W _,by simp⟩
 ·simp [Value.cells]at hcs
  obtain⟨rfl,rfl,rfl⟩:=hcs
  simp only [Prod.mk.injEq]at hx
  have hn:len<=zs.length:=by rw [hz];split<;>omega
  have hw:=sized_slice hsz htj (by rw [hdj,hx.1]) ht
  rw [YG,hb]at hw
  simp only [List.length_take,reachBytes]at hw
  have hll:((zs.take len).map ofI).length=len:=by simp;omega
  refine⟨(zs.take len).map ofI,⟨some x,cap,by rw [hll],by omega,by unfold maxLen at hm;omega,by rw [hll];omega,fun h0=> ?_⟩,by rw [hll];omega⟩
  rw [hll]at h0
  obtain⟨b,off,spot⟩:=x
  have h1:=hcell 0 (by omega)
  have hspot:spot=none:=by simpa [Addr.add]using World.cell?_spot h1
  subst hspot
  have e0:(⟨b,off,none⟩:Addr).add 0=⟨b,off,none⟩:=by unfold Addr.add;simp
  rw [e0]at h1
  refine⟨b,off,rfl,block_lt_of_cell h1,fun j hj=> ?_⟩
  rw [hll]at hj
  have h2:=hcell j (by omega)
  have e1:(⟨b,off,none⟩:Addr).add j=⟨b,off+j,none⟩:=by unfold Addr.add;split<;>simp_all
  rw [e1]at h2
  rw [h2]
  have hz2:j<zs.length:=by omega
  have hr:=j7m (hwz _ (List.getElem_mem hz2))
  have e2:gb ((zs.take len).map ofI) j=ofI zs[j]:=by
   simp [gb,hj,hz2]
  rw [e2]
  show some (Value.int .u8 _)=some (Value.int .u8 (bv (ofI zs[j])))
  rw [yV hr.1 hr.2]
  simp [hz2]
end
section
open Go.ChangeShapes Go.WideShapes Go.ChangeAt Go.RowKit
theorem j0b{H:Type}{enc:TypeId×Value->H}{P:Program}{t e:TypeId}(ht:P.underlying t=some (.slice e))(he:P.underlying e=some (.int .i64))(hc:P.cellsOf e=1)(hb:P.bytesOf e=8){W:World}{base:Nat}{spare:Nat->Bool}{held:Bool}{a:Option Addr}{len cap:Nat}{d:DataW H}{ps:List MemPlace}(h:DataW.Trod enc P W base spare held t (.slice a len cap) d ps){ts:List TypeId}{ds:List (DataW H)}(hsz:(DataW.weightsEach P ts ds).all (·<=reachBytes)=true){j:Nat}(htj:ts[j]?=some t)(hdj:ds[j]?=some d):
 IntsS W (·<W.heap.size) (.slice a len cap) len:=by
 obtain⟨fuel,hf⟩:=h
 rcases open_ints ht he hc hf with ⟨hcs,_⟩|⟨x,n,c,zs,hcs,_,hl,hm,hz,hx,hcell,hwz⟩
 ·simp [Value.cells]at hcs
  obtain⟨rfl,rfl,rfl⟩:=hcs
  exact⟨none,0,rfl,by omega,by omega,by omega,fun h=>by omega⟩
 ·simp [Value.cells]at hcs
  obtain⟨rfl,rfl,rfl⟩:=hcs
  simp only [Prod.mk.injEq]at hx
  have hn:len<=zs.length:=by rw [hz];split<;>omega
  have hw:=sized_slice hsz htj (by rw [hdj,hx.1]) ht
  rw [YG,hb]at hw
  simp only [List.length_take,reachBytes]at hw
  refine⟨some x,cap,rfl,by omega,by unfold maxLen at hm;omega,by omega,fun h0=> ?_⟩
  obtain⟨b,off,spot⟩:=x
  have h1:=hcell 0 (by omega)
  have hspot:spot=none:=by simpa [Addr.add]using World.cell?_spot h1
  subst hspot
  have e0:(⟨b,off,none⟩:Addr).add 0=⟨b,off,none⟩:=by unfold Addr.add;simp
  rw [e0]at h1
  refine⟨b,off,rfl,block_lt_of_cell h1,block_lt_of_cell h1,fun j hj=> ?_⟩
  have h2:=hcell j (by omega)
  have e1:(⟨b,off,none⟩:Addr).add j=⟨b,off+j,none⟩:=by unfold Addr.add;split<;>simp_all
  rw [e1]at h2
  have hz2:j<zs.length:=by omega
  have hr:=hwz _ (List.getElem_mem hz2)
  refine⟨zs.getD j 0,?_,h2⟩
  have e2:zs.getD j 0=zs[j]:=by simp [hz2]
  rw [e2]
  simp [Lit.wf,IntKind.min,IntKind.max,IntKind.signed,IntKind.bits]at hr
  exact⟨by omega,by omega⟩
end
end Go.Proofs.YtalmmiojbmpmiaaGreatDoor
