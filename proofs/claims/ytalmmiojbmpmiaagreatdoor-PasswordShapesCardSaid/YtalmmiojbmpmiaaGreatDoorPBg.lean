/- An argument string, or [][]byte, opened. No program is named here; Layer 19: arguments api.Session, api.Command, api.Response opened; Layer 21: arguments [2]... -/
import Derived.Deep.Slices
import Derived.Test.YtalmmiojbmpmiaaGreatDoorRows
import Derived.Test.YtalmmiojbmpmiaaGreatDoorPb
import Derived.Test.YtalmmiojbmpmiaaGreatDoorPBf
set_option linter.all false
set_option maxRecDepth 100000
namespace Go.Proofs.YtalmmiojbmpmiaaGreatDoor
section
open Go.ChangeShapes Go.WideShapes Go.ChangeAt Go.RowKit Go.Deep
theorem Jg{H:Type}{enc:TypeId×Value->H}{P:Program}{t e:TypeId}(ht:P.underlying t=some (.slice e))(he:P.underlying e=some (.int .u8))(hc:P.cellsOf e=1)
 {W:World} {base:Nat} {spare:Nat->Bool} {held:Bool} {fuel:Nat} {v:Value} {x:DataW H×List MemPlace} (hf:DataW.trod enc P W base spare held fuel t [v]=some x)
 (hz0:∀elems sp,x.1=.slice elems sp->elems.length<=140737488351232):∃l:List UInt8,Bs W W.heap.size v l:=by
 rcases open_ints ht he hc hf with ⟨hcs,_⟩|⟨x,n,c,zs,hcs,_,hl,hm,hz,hx,hcell,hwz⟩
 ·injection hcs with hcs _
  subst hcs
  exact⟨[],Bs.nil W _⟩
 ·injection hcs with hcs _
  subst hcs
  have hn:n<=zs.length:=by rw [hz];split<;>omega
  have hw:=hz0 _ _ (by rw [hx])
  rw [zj]at hw
  simp only [List.length_take]at hw
  have hll:((zs.take n).map ofI).length=n:=by simp;omega
  refine⟨(zs.take n).map ofI,⟨some x,c,by rw [hll],by omega,by unfold maxLen at hm;omega,by rw [hll];omega,fun h0=> ?_⟩⟩
  rw [hll]at h0
  obtain⟨b,off,spot⟩:=x
  have h1:=hcell 0 (by omega)
  have hspot:spot=none:=by simpa [Addr.add]using World.cell?_spot h1
  subst hspot
  have e0:(⟨b,off,none⟩:Addr).add 0=⟨b,off,none⟩:=by unfold Addr.add;simp
  rw [e0]at h1
  refine⟨b,off,rfl,block_lt_of_cell h1,fun j hj=> ?_⟩
  rw [hll]at hj
  have h2:=hcell j (by omega)
  have e1:(⟨b,off,none⟩:Addr).add j=⟨b,off+j,none⟩:=by unfold Addr.add;split<;>simp_all
  rw [e1]at h2
  rw [h2]
  have hz2:j<zs.length:=by omega
  have hr:=j16 (hwz _ (List.getElem_mem hz2))
  have e2:gb ((zs.take n).map ofI) j=ofI zs[j]:=by
   simp [gb,hj,hz2]
  rw [e2]
  show some (Value.int .u8 _)=some (Value.int .u8 (bv (ofI zs[j])))
  rw [xE hr.1 hr.2]
  simp [hz2]
end
section
open Go.ChangeShapes Go.WideShapes Go.ChangeAt Go.RowKit Go.Deep
section
variable {H:Type} {enc:TypeId×Value->H} {W:World} {base base2:Nat} {spare:Nat->Bool} {held:Bool}
theorem Jy{α:Type}:∀(l:List α),l.length=2->∃a b,l= [a,b]
 |[a,b],_=>⟨a,b,rfl⟩
theorem JN:Tryz.prog.cellsOf 22=1:=by kernel_rfl
theorem yo:Tryz.prog.cellsOf 3=1:=by kernel_rfl
theorem XG{t:TypeId}{fs:Array Field}(hu:Tryz.prog.underlying t=some (.struct fs)){xs:List (DataW H)}{ts:List TypeId}{ds:List (DataW H)}(hsz:(DataW.weightsEach Tryz.prog ts ds).all (·<=reachBytes)=true)
 {j:Nat} (htj:ts[j]?=some t) (hdj:ds[j]?=some (.agg xs)) {i:Nat} (hf:(fs.toList.map (·.type))[i]?=some 22) {d:DataW H} (hd:xs[i]?=some d):∀elems sp,d=.slice elems sp->elems.length<=140737488351232:=by
 intro elems sp he
 have e1:Tryz.prog.bytesOf 5=1:=by kernel_rfl
 have h:=List.all_eq_true.1 hsz ((elems.length+sp.length)*Tryz.prog.bytesOf 5) (DataW.weights_mem_each htj hdj _ (by
  simp only [DataW.weights,hu]
  refine DataW.weights_mem_each hf hd _ ?_
  rw [he]
  simp [DataW.weights,Tryz.underlying22]))
 rw [e1]at h
 have h':=of_decide_eq_true h
 simp only [reachBytes]at h'
 omega
theorem Xf{n:Nat}{c:Value}{x:DataW H×List MemPlace}(h:DataW.trod enc Tryz.prog W base spare held n 22 [c]=some x)(hz:∀elems sp,x.1=.slice elems sp->elems.length<=140737488351232):∃l,BsS W (·<W.heap.size) c l:=
 Jg Tryz.underlying22 Tryz.underlying5 (by kernel_rfl) h hz
theorem Ul{n:Nat}{c:Value}{x:DataW H×List MemPlace}(h:DataW.trod enc Tryz.prog W base spare held n 3 [c]=some x):∃t,c=.int .i64 t/\(Lit.int .i64 t).wf=true:=by
 obtain⟨t,hc0,_,htw⟩:=DataW.trod_int Tryz.underlying3 h
 injection hc0 with hc0 _
 exact⟨t,hc0,htw⟩
theorem YS{fs:Array Field}{t:TypeId}(hu:Tryz.prog.underlying t=some (.struct fs)){v:Value}(hv:Value.okWide Tryz.prog W .any base2 t v):∃l:List Value,v=.agg ⟨l⟩/\l.length=Tryz.prog.cellsOf t:=by
 obtain⟨cs,rfl,hc⟩:=okWide_struct hu hv
 exact⟨cs.toList,rfl,by simpa using hc⟩
end
end
section
open Go.ChangeShapes Go.WideShapes Go.ChangeAt Go.RowKit Go.Deep
section
variable {H:Type} {enc:TypeId×Value->H} {W:World} {base base2:Nat} {spare:Nat->Bool} {held:Bool}
theorem Zl:Tryz.prog.cellsOf 24=2:=by kernel_rfl
theorem KF:Tryz.prog.cellsOf 39=2:=by kernel_rfl
theorem XB{v:Value}{d:DataW H}{ps:List MemPlace}(h:DataW.Trod enc Tryz.prog W base spare held 39 v d ps):
 ∃a b:Int,v=.agg #[.int .i64 a,.int .i64 b]/\ps= []:=by
 obtain⟨fuel,hf⟩:=h
 obtain⟨xs,m,_,hx,hl,hn,hi⟩:=DataW.trod_array Tryz.underlying39 hf
 rw [KF]at hl
 have hv:∃c0 c1,v.cells.toList= [c0,c1]/\v=.agg #[c0,c1]:=by
  cases v with
  |agg cs=>
   obtain⟨l⟩:=cs
   obtain⟨c0,c1,rfl⟩:=Jy l hl
   exact⟨c0,c1,rfl,rfl⟩
  |_=>simp [Value.cells]at hl
 obtain⟨c0,c1,hcs,rfl⟩:=hv
 obtain⟨x0,x1,rfl⟩:=Jy xs hn
 have h0:=hi 0 (by omega)
 have h1:=hi 1 (by omega)
 rw [hcs,yo]at h0 h1
 simp at h0 h1
 obtain⟨n0,e0,f0,w0⟩:=DataW.trod_int Tryz.underlying3 h0
 obtain⟨n1,e1,f1,w1⟩:=DataW.trod_int Tryz.underlying3 h1
 simp at e0 e1
 subst e0 e1 f0 f1
 simp only [Prod.mk.injEq]at hx
 exact⟨n0,n1,rfl,by rw [hx.2]<;>rfl⟩
def zn(d:DataW H):Prop:=∀elems sp,d=.slice elems sp->elems.length<=140737488351232
theorem KE{n:Nat}{c:Value}{x:DataW H×List MemPlace}(h:DataW.trod enc Tryz.prog W base spare held n 22 [c]=some x)(hz:zn x.1):∃l,BsS W (·<W.heap.size) c l/\l.length<=140737488351232:=by
 obtain⟨l,hl⟩:=Xf h hz
 refine⟨l,hl,?_⟩
 rcases open_ints Tryz.underlying22 Tryz.underlying5 (by kernel_rfl) h with ⟨hcs,_⟩|⟨y,n',c',zs,hcs,_,hl2,hm,hz2,hx,hcell,hwz⟩
 ·injection hcs with hcs _
  subst hcs
  have e:=Bs.lenEq hl
  omega
 ·injection hcs with hcs _
  subst hcs
  have e:=Bs.lenEq hl
  have hn:n'<=zs.length:=by rw [hz2];split<;>omega
  have hw:=hz _ _ (by rw [hx])
  rw [zj]at hw
  simp only [List.length_take]at hw
  omega
theorem XC{n:Nat}{c0 c1:Value}{x:DataW H×List MemPlace}(hf:DataW.trod enc Tryz.prog W base spare held n 24 [c0,c1]=some x)(hz:∀a b,x.1=.agg [a,b]->zn b):
 ∃kd sec,c0=.int .i64 kd/\Bs W W.heap.size c1 sec/\sec.length<=140737488351232:=by
 obtain⟨xs,m,_,hx,_,hxl,hfs⟩:=DataW.trod_struct Tryz.underlying24 hf
 have hxl:xs.length=2:=hxl
 obtain⟨x0,x1,rfl⟩:=Jy xs hxl
 have g0:DataW.trod enc Tryz.prog W base spare held m 3 (([c0,c1].drop 0).take (Tryz.prog.cellsOf 3))=some x0:=hfs 0 _ rfl
 have g1:DataW.trod enc Tryz.prog W base spare held m 22 (([c0,c1].drop 1).take (Tryz.prog.cellsOf 22))=some x1:=hfs 1 _ rfl
 rw [yo]at g0
 rw [JN]at g1
 have hd:x.1=.agg [x0.1,x1.1]:=by rw [hx]<;>rfl
 obtain⟨k,h1,h2⟩:=KE g1 (hz _ _ hd)
 obtain⟨t,rfl,_⟩:=Ul g0
 exact⟨t,k,rfl,h1,h2⟩
theorem xl{v:Value}{d:DataW H}{ps:List MemPlace}(hv:Value.okWide Tryz.prog W .any base2 24 v)(h:DataW.Trod enc Tryz.prog W base spare held 24 v d ps)
 {ts:List TypeId} {ds:List (DataW H)} (hsz:(DataW.weightsEach Tryz.prog ts ds).all (·<=reachBytes)=true) {j:Nat} (htj:ts[j]?=some 24) (hdj:ds[j]?=some d):
 ∃kd u sec,v=.agg #[.int .i64 kd,u]/\Bs W W.heap.size u sec/\sec.length<=140737488351232:=by
 obtain⟨l,rfl,hl⟩:=YS Tryz.underlying24 hv
 rw [Zl]at hl
 obtain⟨c0,c1,rfl⟩:=Jy l hl
 obtain⟨fuel,hf⟩:=h
 have hz:∀a b,d=.agg [a,b]->zn b:=fun a b e=>by
  rw [e]at hdj
  exact XG Tryz.underlying24 hsz htj hdj (i:=1) rfl rfl
 obtain⟨kd,sec,rfl,hs,hl⟩:=XC hf hz
 exact⟨kd,c1,sec,rfl,hs,hl⟩
end
end
end Go.Proofs.YtalmmiojbmpmiaaGreatDoor
