/- What the form's reading of an argument gives to a walk: a slice of bytes. No program is named here; An argument string, or [][]byte, opened. No program is na... -/
import Derived.Deep.Slices
import Derived.OpenShut
import Derived.ProofKit
import Derived.ShutString
import Derived.Test.YtalmmiojbmpmiaaGreatDoorRows
import Derived.Test.YtalmmiojbmpmiaaGreatDoorPBj
set_option linter.all false
set_option maxRecDepth 100000
namespace Go.Proofs.YtalmmiojbmpmiaaGreatDoor
theorem m36{P:Prop}(h:P:=by
 rw [e1]at h
 have h':=of_decide_eq_true h
 simp only [reachBytes]at h'
 omega):P:=h
section
open Go.ChangeShapes Go.WideShapes Go.ChangeAt Go.RowKit
theorem QH{H:Type}(k:IntKind)(zs:List Int):(lits (H:=H) k zs).length=zs.length:=by simp [lits]
theorem j70{z:Int}(h:(Lit.int .u8 z).wf=true):0<=z/\z<256:=by
 have h1:IntKind.u8.min=0:=rfl
 have h2:IntKind.u8.max=255:=rfl
 simp only [Lit.wf,Bool.and_eq_true,decide_eq_true_eq]at h
 omega
theorem Q0{H:Type}{enc:TypeId×Value->H}{P:Program}{t e:TypeId}(ht:P.underlying t=some (.slice e))(he:P.underlying e=some (.int .u8))(hc:P.cellsOf e=1)(hb:P.bytesOf e=1){W:World}{base:Nat}{spare:Nat->Bool}{held:Bool}{a:Option Addr}{len cap:Nat}{d:DataW H}{ps:List MemPlace}(h:DataW.Trod enc P W base spare held t (.slice a len cap) d ps){ts:List TypeId}{ds:List (DataW H)}(hsz:(DataW.weightsEach P ts ds).all (·<=reachBytes)=true){j:Nat}(htj:ts[j]?=some t)(hdj:ds[j]?=some d):
 ∃l:List UInt8,Bs W W.heap.size (.slice a len cap) l/\l.length<=140737488351232:=by
 obtain⟨fuel,hf⟩:=h
 rcases open_ints ht he hc hf with ⟨hcs,_⟩|⟨x,n,c,zs,hcs,_,hl,hm,hz,hx,hcell,hwz⟩
 ·simp [Value.cells]at hcs
  obtain⟨rfl,rfl,rfl⟩:=hcs
  exact⟨[],Bs.nil W _,by simp⟩
 ·simp [Value.cells]at hcs
  obtain⟨rfl,rfl,rfl⟩:=hcs
  simp only [Prod.mk.injEq]at hx
  have hn:len<=zs.length:=by rw [hz];split<;>omega
  have hw:=sized_slice hsz htj (by rw [hdj,hx.1]) ht
  rw [QH,hb]at hw
  simp only [List.length_take,reachBytes]at hw
  have hll:((zs.take len).map ofI).length=len:=by simp;omega
  refine⟨(zs.take len).map ofI,⟨some x,cap,by rw [hll],by omega,by unfold maxLen at hm;omega,by rw [hll];omega,fun h0=> ?_⟩,by rw [hll];omega⟩
  rw [hll]at h0
  obtain⟨b,off,spot⟩:=x
  have h1:=hcell 0 (by omega)
  have hspot:spot=none:=by simpa [Addr.add]using World.cell?_spot h1
  subst hspot
  have e0:(⟨b,off,none⟩:Addr).add 0=⟨b,off,none⟩:=by unfold Addr.add;simp
  rw [e0]at h1
  refine⟨b,off,rfl,block_lt_of_cell h1,fun j hj=> ?_⟩
  rw [hll]at hj
  have h2:=hcell j (by omega)
  have e1:(⟨b,off,none⟩:Addr).add j=⟨b,off+j,none⟩:=by unfold Addr.add;split<;>simp_all
  rw [e1]at h2
  rw [h2]
  have hz2:j<zs.length:=by omega
  have hr:=j70 (hwz _ (List.getElem_mem hz2))
  have e2:gb ((zs.take len).map ofI) j=ofI zs[j]:=by
   simp [gb,hj,hz2]
  rw [e2]
  show some (Value.int .u8 _)=some (Value.int .u8 (bv (ofI zs[j])))
  rw [yJ hr.1 hr.2]
  simp [hz2]
end
section
open Go.ChangeShapes Go.WideShapes Go.ChangeAt Go.RowKit Go.Deep
theorem QQ{H:Type}{enc:TypeId×Value->H}{P:Program}{t e:TypeId}(ht:P.underlying t=some (.slice e))(he:P.underlying e=some (.int .u8))(hc:P.cellsOf e=1){W:World}{base:Nat}{spare:Nat->Bool}{held:Bool}{fuel:Nat}{v:Value}{x:DataW H×List MemPlace}(hf:DataW.trod enc P W base spare held fuel t [v]=some x)(hz0:∀elems sp,x.1=.slice elems sp->elems.length<=140737488351232):∃l:List UInt8,Bs W W.heap.size v l:=by
 rcases open_ints ht he hc hf with ⟨hcs,_⟩|⟨x,n,c,zs,hcs,_,hl,hm,hz,hx,hcell,hwz⟩
 ·injection hcs with hcs _
  subst hcs
  exact⟨[],Bs.nil W _⟩
 ·injection hcs with hcs _
  subst hcs
  have hn:n<=zs.length:=by rw [hz];split<;>omega
  have hw:=hz0 _ _ (by rw [hx])
  rw [QH]at hw
  simp only [List.length_take]at hw
  have hll:((zs.take n).map ofI).length=n:=by simp;omega
  refine⟨(zs.take n).map ofI,⟨some x,c,by rw [hll],by omega,by unfold maxLen at hm;omega,by rw [hll];omega,fun h0=> ?_⟩⟩
  rw [hll]at h0
  obtain⟨b,off,spot⟩:=x
  have h1:=hcell 0 (by omega)
  have hspot:spot=none:=by simpa [Addr.add]using World.cell?_spot h1
  subst hspot
  have e0:(⟨b,off,none⟩:Addr).add 0=⟨b,off,none⟩:=by unfold Addr.add;simp
  rw [e0]at h1
  refine⟨b,off,rfl,block_lt_of_cell h1,fun j hj=> ?_⟩
  rw [hll]at hj
  have h2:=hcell j (by omega)
  have e1:(⟨b,off,none⟩:Addr).add j=⟨b,off+j,none⟩:=by unfold Addr.add;split<;>simp_all
  rw [e1]at h2
  rw [h2]
  have hz2:j<zs.length:=by omega
  have hr:=j70 (hwz _ (List.getElem_mem hz2))
  have e2:gb ((zs.take n).map ofI) j=ofI zs[j]:=by
   simp [gb,hj,hz2]
  rw [e2]
  show some (Value.int .u8 _)=some (Value.int .u8 (bv (ofI zs[j])))
  rw [yJ hr.1 hr.2]
  simp [hz2]
end
section
open Go.ChangeShapes Go.WideShapes Go.ChangeAt Go.RowKit Go.Deep
section
variable {H:Type} {enc:TypeId×Value->H} {W:World} {base base2:Nat} {spare:Nat->Bool} {held:Bool}
theorem j5x{α:Type}:∀(l:List α),l.length=2->∃a b,l= [a,b]
 |[a,b],_=>⟨a,b,rfl⟩
theorem j1h{α:Type}:∀(l:List α),l.length=3->∃a b c,l= [a,b,c]
 |[a,b,c],_=>⟨a,b,c,rfl⟩
theorem xE:Tryz.prog.cellsOf 22=1:=by kernel_rfl
theorem kU:Tryz.prog.cellsOf 3=1:=by kernel_rfl
theorem ZG:Tryz.prog.cellsOf 46=3:=by kernel_rfl
theorem UN{t:TypeId}{fs:Array Field}(hu:Tryz.prog.underlying t=some (.struct fs)){xs:List (DataW H)}{ts:List TypeId}{ds:List (DataW H)}(hsz:(DataW.weightsEach Tryz.prog ts ds).all (·<=reachBytes)=true){j:Nat}(htj:ts[j]?=some t)(hdj:ds[j]?=some (.agg xs)){i:Nat}(hf:(fs.toList.map (·.type))[i]?=some 22){d:DataW H}(hd:xs[i]?=some d):∀elems sp,d=.slice elems sp->elems.length<=140737488351232:=by
 intro elems sp he
 have e1:Tryz.prog.bytesOf 5=1:=by kernel_rfl
 have h:=List.all_eq_true.1 hsz ((elems.length+sp.length)*Tryz.prog.bytesOf 5) (DataW.weights_mem_each htj hdj _ (by
  simp only [DataW.weights,hu]
  refine DataW.weights_mem_each hf hd _ ?_
  rw [he]
  simp [DataW.weights,Tryz.underlying22]))
 exact m36
section
variable{n:Nat}{c:Value}{x:DataW H×List MemPlace}
include n c x
theorem Uk(h:DataW.trod enc Tryz.prog W base spare held n 22 [c]=some x)(hz:∀elems sp,x.1=.slice elems sp->elems.length<=140737488351232):∃l,BsS W (·<W.heap.size) c l:=
 QQ Tryz.underlying22 Tryz.underlying5 (by kernel_rfl) h hz
theorem qL(h:DataW.trod enc Tryz.prog W base spare held n 3 [c]=some x):∃t,c=.int .i64 t/\(Lit.int .i64 t).wf=true:=by
 obtain⟨t,hc0,_,htw⟩:=DataW.trod_int Tryz.underlying3 h
 injection hc0 with hc0 _
 exact⟨t,hc0,htw⟩
end
theorem j21{fs:Array Field}{t:TypeId}(hu:Tryz.prog.underlying t=some (.struct fs)){v:Value}(hv:Value.okWide Tryz.prog W .any base2 t v):∃l:List Value,v=.agg ⟨l⟩/\l.length=Tryz.prog.cellsOf t:=by
 obtain⟨cs,rfl,hc⟩:=okWide_struct hu hv
 exact⟨cs.toList,rfl,by simpa using hc⟩
end
end
section
open Go.ChangeShapes Go.WideShapes Go.ChangeAt Go.RowKit Go.Deep
section
variable {H:Type} {enc:TypeId×Value->H} {W:World} {base base2:Nat} {spare:Nat->Bool} {held:Bool}
theorem VF:Tryz.prog.cellsOf 24=2:=by kernel_rfl
theorem VE:Tryz.prog.cellsOf 48=12:=by kernel_rfl
theorem j59{α:Type}:∀(l:List α),l.length=9->∃a b c d e f g h i,l= [a,b,c,d,e,f,g,h,i]
 |[a,b,c,d,e,f,g,h,i],_=>⟨a,b,c,d,e,f,g,h,i,rfl⟩
theorem j1o{α:Type}:∀(l:List α),l.length=12->∃a b c d e f g h i j k m,l= [a,b,c,d,e,f,g,h,i,j,k,m]
 |[a,b,c,d,e,f,g,h,i,j,k,m],_=>⟨a,b,c,d,e,f,g,h,i,j,k,m,rfl⟩
def xB(d:DataW H):Prop:=∀elems sp,d=.slice elems sp->elems.length<=140737488351232
theorem qZ{n:Nat}{c:Value}{x:DataW H×List MemPlace}(h:DataW.trod enc Tryz.prog W base spare held n 22 [c]=some x)(hz:xB x.1):∃l,BsS W (·<W.heap.size) c l/\l.length<=140737488351232:=by
 obtain⟨l,hl⟩:=Uk h hz
 refine⟨l,hl,?_⟩
 rcases open_ints Tryz.underlying22 Tryz.underlying5 (by kernel_rfl) h with ⟨hcs,_⟩|⟨y,n',c',zs,hcs,_,hl2,hm,hz2,hx,hcell,hwz⟩
 ·injection hcs with hcs _
  subst hcs
  have e:=Bs.lenEq hl
  omega
 ·injection hcs with hcs _
  subst hcs
  have e:=Bs.lenEq hl
  have hn:n'<=zs.length:=by rw [hz2];split<;>omega
  have hw:=hz _ _ (by rw [hx])
  rw [QH]at hw
  simp only [List.length_take]at hw
  omega
theorem UJ{n:Nat}{c0 c1:Value}{x:DataW H×List MemPlace}(hf:DataW.trod enc Tryz.prog W base spare held n 24 [c0,c1]=some x)(hz:∀a b,x.1=.agg [a,b]->xB b):
 ∃kd sec,c0=.int .i64 kd/\Bs W W.heap.size c1 sec/\sec.length<=140737488351232:=by
 obtain⟨xs,m,_,hx,_,hxl,hfs⟩:=DataW.trod_struct Tryz.underlying24 hf
 have hxl:xs.length=2:=hxl
 obtain⟨x0,x1,rfl⟩:=j5x xs hxl
 have g0:DataW.trod enc Tryz.prog W base spare held m 3 (([c0,c1].drop 0).take (Tryz.prog.cellsOf 3))=some x0:=hfs 0 _ rfl
 have g1:DataW.trod enc Tryz.prog W base spare held m 22 (([c0,c1].drop 1).take (Tryz.prog.cellsOf 22))=some x1:=hfs 1 _ rfl
 rw [kU]at g0
 rw [xE]at g1
 have hd:x.1=.agg [x0.1,x1.1]:=by rw [hx]<;>rfl
 obtain⟨k,h1,h2⟩:=qZ g1 (hz _ _ hd)
 obtain⟨t,rfl,_⟩:=qL g0
 exact⟨t,k,rfl,h1,h2⟩
end
end
section
open Go.ChangeShapes Go.WideShapes Go.ChangeAt Go.RowKit Go.Deep
section
variable {H:Type} {enc:TypeId×Value->H} {W:World} {base base2:Nat} {spare:Nat->Bool} {held:Bool}
theorem Z5{n:Nat}{c0 c1 c2:Value}{x:DataW H×List MemPlace}(hf:DataW.trod enc Tryz.prog W base spare held n 46 [c0,c1,c2]=some x)(hz:∀a b c,x.1=.agg [a,b,c]->xB a/\xB b):
 ∃k1 k2 z,c2=.int .i64 z/\Bs W W.heap.size c0 k1/\Bs W W.heap.size c1 k2/\k1.length<=140737488351232/\k2.length<=140737488351232:=by
 obtain⟨xs,m,_,hx,_,hxl,hfs⟩:=DataW.trod_struct Tryz.underlying46 hf
 have hxl:xs.length=3:=hxl
 obtain⟨x0,x1,x2,rfl⟩:=j1h xs hxl
 have g0:DataW.trod enc Tryz.prog W base spare held m 22 (([c0,c1,c2].drop 0).take (Tryz.prog.cellsOf 22))=some x0:=hfs 0 _ rfl
 have g1:DataW.trod enc Tryz.prog W base spare held m 22 (([c0,c1,c2].drop 1).take (Tryz.prog.cellsOf 22))=some x1:=hfs 1 _ rfl
 have g2:DataW.trod enc Tryz.prog W base spare held m 3 (([c0,c1,c2].drop 2).take (Tryz.prog.cellsOf 3))=some x2:=hfs 2 _ rfl
 rw [xE]at g0 g1
 rw [kU]at g2
 have hd:x.1=.agg [x0.1,x1.1,x2.1]:=by rw [hx]<;>rfl
 obtain⟨k1,h1,l1⟩:=qZ g0 (hz _ _ _ hd).1
 obtain⟨k2,h2,l2⟩:=qZ g1 (hz _ _ _ hd).2
 obtain⟨z,rfl,_⟩:=qL g2
 exact⟨k1,k2,z,rfl,h1,h2,l1,l2⟩
theorem zI{t u:TypeId}{fs gs:Array Field}(hu:Tryz.prog.underlying t=some (.struct fs))(hg:Tryz.prog.underlying u=some (.struct gs)){xs ys:List (DataW H)}{ts:List TypeId}{ds:List (DataW H)}(hsz:(DataW.weightsEach Tryz.prog ts ds).all (·<=reachBytes)=true){j:Nat}(htj:ts[j]?=some t)(hdj:ds[j]?=some (.agg xs)){i:Nat}(hf:(fs.toList.map (·.type))[i]?=some u)(hd:xs[i]?=some (.agg ys)){k:Nat}(hk:(gs.toList.map (·.type))[k]?=some 22){d:DataW H}(hy:ys[k]?=some d):xB d:=by
 intro elems sp he
 have e1:Tryz.prog.bytesOf 5=1:=by kernel_rfl
 have h:=List.all_eq_true.1 hsz ((elems.length+sp.length)*Tryz.prog.bytesOf 5) (DataW.weights_mem_each htj hdj _ (by
  simp only [DataW.weights,hu]
  refine DataW.weights_mem_each hf hd _ ?_
  simp only [DataW.weights,hg]
  refine DataW.weights_mem_each hk hy _ ?_
  rw [he]
  simp [DataW.weights,Tryz.underlying22]))
 exact m36
theorem QR{v:Value}{d:DataW H}{ps:List MemPlace}(hv:Value.okWide Tryz.prog W .any base2 48 v)(h:DataW.Trod enc Tryz.prog W base spare held 48 v d ps){ts:List TypeId}{ds:List (DataW H)}(hsz:(DataW.weightsEach Tryz.prog ts ds).all (·<=reachBytes)=true){j:Nat}(htj:ts[j]?=some 48)(hdj:ds[j]?=some d):
 ∃X,ExA W v X:=by
 obtain⟨l,rfl,hl⟩:=j21 Tryz.underlying48 hv
 rw [VE]at hl
 obtain⟨c0,c1,c2,c3,c4,c5,c6,c7,c8,c9,c10,c11,rfl⟩:=j1o l hl
 obtain⟨fuel,hf⟩:=h
 obtain⟨xs,n,_,hx,_,hxl,hfs⟩:=DataW.trod_struct Tryz.underlying48 hf
 have hxl:xs.length=9:=hxl
 obtain⟨x0,x1,x2,x3,x4,x5,x6,x7,x8,rfl⟩:=j59 xs hxl
 have g0:DataW.trod enc Tryz.prog W base spare held n 24 (([c0,c1,c2,c3,c4,c5,c6,c7,c8,c9,c10,c11].drop 0).take (Tryz.prog.cellsOf 24))=some x0:=hfs 0 _ rfl
 rw [VF]at g0
 have g1:DataW.trod enc Tryz.prog W base spare held n 3 (([c0,c1,c2,c3,c4,c5,c6,c7,c8,c9,c10,c11].drop 2).take (Tryz.prog.cellsOf 3))=some x1:=hfs 1 _ rfl
 rw [kU]at g1
 have g2:DataW.trod enc Tryz.prog W base spare held n 3 (([c0,c1,c2,c3,c4,c5,c6,c7,c8,c9,c10,c11].drop 3).take (Tryz.prog.cellsOf 3))=some x2:=hfs 2 _ rfl
 rw [kU]at g2
 have g3:DataW.trod enc Tryz.prog W base spare held n 22 (([c0,c1,c2,c3,c4,c5,c6,c7,c8,c9,c10,c11].drop 4).take (Tryz.prog.cellsOf 22))=some x3:=hfs 3 _ rfl
 rw [xE]at g3
 have g4:DataW.trod enc Tryz.prog W base spare held n 3 (([c0,c1,c2,c3,c4,c5,c6,c7,c8,c9,c10,c11].drop 5).take (Tryz.prog.cellsOf 3))=some x4:=hfs 4 _ rfl
 rw [kU]at g4
 have g5:DataW.trod enc Tryz.prog W base spare held n 3 (([c0,c1,c2,c3,c4,c5,c6,c7,c8,c9,c10,c11].drop 6).take (Tryz.prog.cellsOf 3))=some x5:=hfs 5 _ rfl
 rw [kU]at g5
 have g6:DataW.trod enc Tryz.prog W base spare held n 3 (([c0,c1,c2,c3,c4,c5,c6,c7,c8,c9,c10,c11].drop 7).take (Tryz.prog.cellsOf 3))=some x6:=hfs 6 _ rfl
 rw [kU]at g6
 have g7:DataW.trod enc Tryz.prog W base spare held n 3 (([c0,c1,c2,c3,c4,c5,c6,c7,c8,c9,c10,c11].drop 8).take (Tryz.prog.cellsOf 3))=some x7:=hfs 7 _ rfl
 rw [kU]at g7
 have g8:DataW.trod enc Tryz.prog W base spare held n 46 (([c0,c1,c2,c3,c4,c5,c6,c7,c8,c9,c10,c11].drop 9).take (Tryz.prog.cellsOf 46))=some x8:=hfs 8 _ rfl
 rw [ZG]at g8
 simp only [Prod.mk.injEq]at hx
 have hd:d=.agg [x0.1,x1.1,x2.1,x3.1,x4.1,x5.1,x6.1,x7.1,x8.1]:=hx.1
 rw [hd]at hdj
 obtain⟨kd,sec,rfl,p1,q1⟩:=UJ g0 (fun a b e=>zI Tryz.underlying48 Tryz.underlying24 hsz htj hdj (i:=0) rfl (by rw [<-e]<;>rfl) (k:=1) rfl rfl)
 obtain⟨pr,rfl,_⟩:=qL g1
 obtain⟨st,rfl,_⟩:=qL g2
 obtain⟨non,p2,q2⟩:=qZ g3 (UN Tryz.underlying48 hsz htj hdj (i:=3) rfl rfl)
 obtain⟨x,rfl,_⟩:=qL g4
 obtain⟨g,rfl,_⟩:=qL g5
 obtain⟨own,rfl,_⟩:=qL g6
 obtain⟨oth,rfl,_⟩:=qL g7
 obtain⟨k1,k2,z,rfl,p3,p4,q3,q4⟩:=Z5 g8 (fun a b c e=>⟨zI Tryz.underlying48 Tryz.underlying46 hsz htj hdj (i:=8) rfl (by rw [<-e]<;>rfl) (k:=0) rfl rfl,zI Tryz.underlying48 Tryz.underlying46 hsz htj hdj (i:=8) rfl (by rw [<-e]<;>rfl) (k:=1) rfl rfl⟩)
 exact⟨⟨kd,sec,pr,st,non,x,g,own,oth,k1,k2,z⟩,⟨_,_,_,_,rfl,p1,p2,p3,p4⟩,q1,q2,q3,q4⟩
end
end
end Go.Proofs.YtalmmiojbmpmiaaGreatDoor
