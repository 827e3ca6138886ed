import Derived.Deep.Slices
import Derived.OpenShut
import Derived.ProofKit
import Derived.ShutString
import Derived.Test.YtadndhgebgjlaaaGreatRows
import Derived.Test.YtadndhgebgjlaaaGreatPl
import Derived.Test.YtadndhgebgjlaaaGreatPm
set_option linter.all false
set_option maxRecDepth 100000
namespace Go.Proofs.YtadndhgebgjlaaaGreat
section
open Go.ChangeShapes Go.WideShapes Go.ChangeAt Go.RowKit
theorem j1h{H:Type}(k:IntKind)(zs:List Int):(lits (H:=H) k zs).length=zs.length:=by simp [lits]
theorem j6b{z:Int}(h:(Lit.int .u8 z).wf=true):0<=z/\z<256:=by
 have h1:IntKind.u8.min=0:=rfl
 have h2:IntKind.u8.max=255:=rfl
 simp only [Lit.wf,Bool.and_eq_true,decide_eq_true_eq]at h
 omega
end
section
open Go.ChangeShapes Go.WideShapes Go.ChangeAt Go.RowKit Go.Deep
theorem Qi{H:Type}{enc:TypeId×Value->H}{P:Program}{t e:TypeId}(ht:P.underlying t=some (.slice e))(he:P.underlying e=some (.int .u8))(hc:P.cellsOf e=1)
 {W:World} {base:Nat} {spare:Nat->Bool} {held:Bool} {fuel:Nat} {v:Value} {x:DataW H×List MemPlace} (hf:DataW.trod enc P W base spare held fuel t [v]=some x)
 (hz0:∀elems sp,x.1=.slice elems sp->elems.length<=140737488351232):∃l:List UInt8,Bs W W.heap.size v l:=by
 rcases open_ints ht he hc hf with ⟨hcs,_⟩|⟨x,n,c,zs,hcs,_,hl,hm,hz,hx,hcell,hwz⟩
 ·injection hcs with hcs _
  subst hcs
  exact⟨[],Bs.nil W _⟩
 ·injection hcs with hcs _
  subst hcs
  have hn:n<=zs.length:=by rw [hz];split<;>omega
  have hw:=hz0 _ _ (by rw [hx])
  rw [j1h]at hw
  simp only [List.length_take]at hw
  have hll:((zs.take n).map ofI).length=n:=by simp;omega
  refine⟨(zs.take n).map ofI,⟨some x,c,by rw [hll],by omega,by unfold maxLen at hm;omega,by rw [hll];omega,fun h0=> ?_⟩⟩
  rw [hll]at h0
  obtain⟨b,off,spot⟩:=x
  have h1:=hcell 0 (by omega)
  have hspot:spot=none:=by simpa [Addr.add]using World.cell?_spot h1
  subst hspot
  have e0:(⟨b,off,none⟩:Addr).add 0=⟨b,off,none⟩:=by unfold Addr.add;simp
  rw [e0]at h1
  refine⟨b,off,rfl,block_lt_of_cell h1,fun j hj=> ?_⟩
  rw [hll]at hj
  have h2:=hcell j (by omega)
  have e1:(⟨b,off,none⟩:Addr).add j=⟨b,off+j,none⟩:=by unfold Addr.add;split<;>simp_all
  rw [e1]at h2
  rw [h2]
  have hz2:j<zs.length:=by omega
  have hr:=j6b (hwz _ (List.getElem_mem hz2))
  have e2:gb ((zs.take n).map ofI) j=ofI zs[j]:=by
   simp [gb,hj,hz2]
  rw [e2]
  show some (Value.int .u8 _)=some (Value.int .u8 (bv (ofI zs[j])))
  rw [Ja hr.1 hr.2]
  simp [hz2]
end
section
open Go.ChangeShapes Go.WideShapes Go.ChangeAt Go.RowKit Go.Deep
section
variable {H:Type} {enc:TypeId×Value->H} {W:World} {base base2:Nat} {spare:Nat->Bool} {held:Bool}
theorem j06{α:Type}:∀(l:List α),l.length=2->∃a b,l= [a,b]
 |[a,b],_=>⟨a,b,rfl⟩
theorem XD{α:Type}:∀(l:List α),l.length=3->∃a b c,l= [a,b,c]
 |[a,b,c],_=>⟨a,b,c,rfl⟩
theorem VO{α:Type}:∀(l:List α),l.length=6->∃a b c d e f,l= [a,b,c,d,e,f]
 |[a,b,c,d,e,f],_=>⟨a,b,c,d,e,f,rfl⟩
theorem xG:Tryz.prog.cellsOf 27=1:=by kernel_rfl
theorem yB:Tryz.prog.cellsOf 3=1:=by kernel_rfl
theorem XZ:Tryz.prog.cellsOf 29=3:=by kernel_rfl
theorem Ys:Tryz.prog.cellsOf 32=6:=by kernel_rfl
theorem Yt:Tryz.prog.cellsOf 44=2:=by kernel_rfl
theorem zh{t:TypeId}{fs:Array Field}(hu:Tryz.prog.underlying t=some (.struct fs)){xs:List (DataW H)}{ts:List TypeId}{ds:List (DataW H)}(hsz:(DataW.weightsEach Tryz.prog ts ds).all (·<=reachBytes)=true)
 {j:Nat} (htj:ts[j]?=some t) (hdj:ds[j]?=some (.agg xs)) {i:Nat} (hf:(fs.toList.map (·.type))[i]?=some 27) {d:DataW H} (hd:xs[i]?=some d):∀elems sp,d=.slice elems sp->elems.length<=140737488351232:=by
 intro elems sp he
 have e1:Tryz.prog.bytesOf 5=1:=by kernel_rfl
 have h:=List.all_eq_true.1 hsz ((elems.length+sp.length)*Tryz.prog.bytesOf 5) (DataW.weights_mem_each htj hdj _ (by
  simp only [DataW.weights,hu]
  refine DataW.weights_mem_each hf hd _ ?_
  rw [he]
  simp [DataW.weights,Tryz.underlying27]))
 rw [e1]at h
 have h':=of_decide_eq_true h
 simp only [reachBytes]at h'
 omega
theorem xX{n:Nat}{c:Value}{x:DataW H×List MemPlace}(h:DataW.trod enc Tryz.prog W base spare held n 27 [c]=some x)(hz:∀elems sp,x.1=.slice elems sp->elems.length<=140737488351232):∃l,BsS W (·<W.heap.size) c l:=
 Qi Tryz.underlying27 Tryz.underlying5 (by kernel_rfl) h hz
theorem xt{n:Nat}{c:Value}{x:DataW H×List MemPlace}(h:DataW.trod enc Tryz.prog W base spare held n 3 [c]=some x):∃t,c=.int .i64 t/\(Lit.int .i64 t).wf=true:=by
 obtain⟨t,hc0,_,htw⟩:=DataW.trod_int Tryz.underlying3 h
 injection hc0 with hc0 _
 exact⟨t,hc0,htw⟩
theorem KV{fs:Array Field}{t:TypeId}(hu:Tryz.prog.underlying t=some (.struct fs)){v:Value}(hv:Value.okWide Tryz.prog W .any base2 t v):∃l:List Value,v=.agg ⟨l⟩/\l.length=Tryz.prog.cellsOf t:=by
 obtain⟨cs,rfl,hc⟩:=okWide_struct hu hv
 exact⟨cs.toList,rfl,by simpa using hc⟩
theorem Xn{v:Value}{d:DataW H}{ps:List MemPlace}(hv:Value.okWide Tryz.prog W .any base2 29 v)(h:DataW.Trod enc Tryz.prog W base spare held 29 v d ps)
 {ts:List TypeId} {ds:List (DataW H)} (hsz:(DataW.weightsEach Tryz.prog ts ds).all (·<=reachBytes)=true) {j:Nat} (htj:ts[j]?=some 29) (hdj:ds[j]?=some d):
 ∃k1 k2 n,qa W (·<W.heap.size) v k1 k2 n/\(Lit.int .i64 n).wf=true:=by
 obtain⟨l,rfl,hl⟩:=KV Tryz.underlying29 hv
 rw [XZ]at hl
 obtain⟨c0,c1,c2,rfl⟩:=XD l hl
 obtain⟨fuel,hf⟩:=h
 obtain⟨xs,n,_,hx,_,hxl,hfs⟩:=DataW.trod_struct Tryz.underlying29 hf
 have hxl:xs.length=3:=hxl
 obtain⟨x0,x1,x2,rfl⟩:=XD xs hxl
 have g0:DataW.trod enc Tryz.prog W base spare held n 27 (([c0,c1,c2].drop 0).take (Tryz.prog.cellsOf 27))=some x0:=hfs 0 _ rfl
 have g1:DataW.trod enc Tryz.prog W base spare held n 27 (([c0,c1,c2].drop 1).take (Tryz.prog.cellsOf 27))=some x1:=hfs 1 _ rfl
 have g2:DataW.trod enc Tryz.prog W base spare held n 3 (([c0,c1,c2].drop 2).take (Tryz.prog.cellsOf 3))=some x2:=hfs 2 _ rfl
 rw [xG]at g0 g1
 rw [yB]at g2
 simp only [Prod.mk.injEq]at hx
 have hd:d=.agg [x0.1,x1.1,x2.1]:=hx.1
 rw [hd]at hdj
 obtain⟨k1,h1⟩:=xX g0 (zh Tryz.underlying29 hsz htj hdj (i:=0) rfl rfl)
 obtain⟨k2,h2⟩:=xX g1 (zh Tryz.underlying29 hsz htj hdj (i:=1) rfl rfl)
 obtain⟨t,rfl,ht⟩:=xt g2
 exact⟨k1,k2,t,⟨c0,c1,rfl,h1,h2⟩,ht⟩
theorem Xm{v:Value}{d:DataW H}{ps:List MemPlace}(hv:Value.okWide Tryz.prog W .any base2 32 v)(h:DataW.Trod enc Tryz.prog W base spare held 32 v d ps)
 {ts:List TypeId} {ds:List (DataW H)} (hsz:(DataW.weightsEach Tryz.prog ts ds).all (·<=reachBytes)=true) {j:Nat} (htj:ts[j]?=some 32) (hdj:ds[j]?=some d):
 ∃c,yx W (·<W.heap.size) v c:=by
 obtain⟨l,rfl,hl⟩:=KV Tryz.underlying32 hv
 rw [Ys]at hl
 obtain⟨c0,c1,c2,c3,c4,c5,rfl⟩:=VO l hl
 obtain⟨fuel,hf⟩:=h
 obtain⟨xs,n,_,hx,_,hxl,hfs⟩:=DataW.trod_struct Tryz.underlying32 hf
 have hxl:xs.length=6:=hxl
 obtain⟨x0,x1,x2,x3,x4,x5,rfl⟩:=VO xs hxl
 have g0:DataW.trod enc Tryz.prog W base spare held n 3 (([c0,c1,c2,c3,c4,c5].drop 0).take (Tryz.prog.cellsOf 3))=some x0:=hfs 0 _ rfl
 have g1:DataW.trod enc Tryz.prog W base spare held n 3 (([c0,c1,c2,c3,c4,c5].drop 1).take (Tryz.prog.cellsOf 3))=some x1:=hfs 1 _ rfl
 have g2:DataW.trod enc Tryz.prog W base spare held n 3 (([c0,c1,c2,c3,c4,c5].drop 2).take (Tryz.prog.cellsOf 3))=some x2:=hfs 2 _ rfl
 have g3:DataW.trod enc Tryz.prog W base spare held n 3 (([c0,c1,c2,c3,c4,c5].drop 3).take (Tryz.prog.cellsOf 3))=some x3:=hfs 3 _ rfl
 have g4:DataW.trod enc Tryz.prog W base spare held n 27 (([c0,c1,c2,c3,c4,c5].drop 4).take (Tryz.prog.cellsOf 27))=some x4:=hfs 4 _ rfl
 have g5:DataW.trod enc Tryz.prog W base spare held n 3 (([c0,c1,c2,c3,c4,c5].drop 5).take (Tryz.prog.cellsOf 3))=some x5:=hfs 5 _ rfl
 rw [xG]at g4
 rw [yB]at g0 g1 g2 g3 g5
 simp only [Prod.mk.injEq]at hx
 have hd:d=.agg [x0.1,x1.1,x2.1,x3.1,x4.1,x5.1]:=hx.1
 rw [hd]at hdj
 obtain⟨k,h4⟩:=xX g4 (zh Tryz.underlying32 hsz htj hdj (i:=4) rfl rfl)
 obtain⟨t0,rfl,_⟩:=xt g0
 obtain⟨t1,rfl,_⟩:=xt g1
 obtain⟨t2,rfl,_⟩:=xt g2
 obtain⟨t3,rfl,_⟩:=xt g3
 obtain⟨t5,rfl,_⟩:=xt g5
 exact⟨⟨t0,t1,t2,t3,k,t5⟩,c4,rfl,h4⟩
theorem Qk{v:Value}{d:DataW H}{ps:List MemPlace}(hv:Value.okWide Tryz.prog W .any base2 44 v)(h:DataW.Trod enc Tryz.prog W base spare held 44 v d ps)
 {ts:List TypeId} {ds:List (DataW H)} (hsz:(DataW.weightsEach Tryz.prog ts ds).all (·<=reachBytes)=true) {j:Nat} (htj:ts[j]?=some 44) (hdj:ds[j]?=some d):
 ∃c st,Kr W (·<W.heap.size) v c st:=by
 obtain⟨l,rfl,hl⟩:=KV Tryz.underlying44 hv
 rw [Yt]at hl
 obtain⟨c0,c1,rfl⟩:=j06 l hl
 obtain⟨fuel,hf⟩:=h
 obtain⟨xs,n,_,hx,_,hxl,hfs⟩:=DataW.trod_struct Tryz.underlying44 hf
 have hxl:xs.length=2:=hxl
 obtain⟨x0,x1,rfl⟩:=j06 xs hxl
 have g0:DataW.trod enc Tryz.prog W base spare held n 27 (([c0,c1].drop 0).take (Tryz.prog.cellsOf 27))=some x0:=hfs 0 _ rfl
 have g1:DataW.trod enc Tryz.prog W base spare held n 3 (([c0,c1].drop 1).take (Tryz.prog.cellsOf 3))=some x1:=hfs 1 _ rfl
 rw [xG]at g0
 rw [yB]at g1
 simp only [Prod.mk.injEq]at hx
 have hd:d=.agg [x0.1,x1.1]:=hx.1
 rw [hd]at hdj
 obtain⟨k,h0⟩:=xX g0 (zh Tryz.underlying44 hsz htj hdj (i:=0) rfl rfl)
 obtain⟨t,rfl,_⟩:=xt g1
 exact⟨k,t,c0,rfl,h0⟩
end
end
end Go.Proofs.YtadndhgebgjlaaaGreat
