/- append(v, make([]T, k)...) onto a row of the call's own, one cell an element. No program is named here -/
import Derived.Lib.AppendZerosOnto
import Derived.Test.YtalmmiojbmpmiaaGreatDoorPc
set_option linter.all false
namespace Go.Proofs.YtalmmiojbmpmiaaGreatDoor
open Go.RowKit
theorem yg(z:Value)(k:Nat):(Builtin.zeroCells #[z] k).toList=List.replicate k z:=by
 unfold Builtin.zeroCells
 apply List.ext_getElem
 ·simp
 ·intro i h1 h2
  simp [Nat.mod_one]
section
variable {P:Program} (w:World)
theorem xp(base:Nat)(t tn ty e:TypeId)(z:Value)(bytes:Nat)(kq kn:IntKind)(ht:P.underlying t=some (.slice e))(htn:P.underlying tn=some (.int kn))(hinfo:(P.info? e).map (fun i=>(i.zero,i.size,i.bytes))=some (some z,1,bytes))(hzs:z.cells=#[z])(hz1:z.oneCell'=true)(hby:0<bytes)(v:Value)(n:Nat)(xs:List Value)(hown:w.ownsRow base e 1 v n xs)(k:Nat)(hk:0<k)(hbytes:(n+k)*bytes<=140737488355328)(hbase:base<=w.heap.size):
 ∃v' w',(Builtin.append_ #[t,tn] ty #[v,.int kq k]).run P w=.ok v' w'/\w'.ownsRow base e 1 v' (n+k) (xs++List.replicate k z)/\w.grownBy w' v.ownBlock:=by
 obtain⟨i,hi,hzz⟩:=Option.map_eq_some_iff.1 hinfo
 simp only [Prod.mk.injEq]at hzz
 obtain⟨hz,hsize,hbb⟩:=hzz
 have hle:n+k<=140737488355328:=Nat.le_trans (by have:=Nat.mul_le_mul_left (n+k) hby;omega) hbytes
 have hk48:k*i.bytes<=281474976710656:=by
  rw [hbb]
  have:k*bytes<=(n+k)*bytes:=Nat.mul_le_mul_right _ (by omega)
  omega
 have grown:∀old,old<n+k->(w.drew.alloc (.cells (xs.toArray++Builtin.zeroCells z.cells k++Builtin.zeroCells z.cells (grownCap w (n+k) old e - (n+k))) e)).ownsRow base e 1
  (.slice (some ⟨w.heap.size,0,none⟩) (n+k) (grownCap w (n+k) old e)) (n+k) (xs++List.replicate k z):=by
  intro old ho
  have hge:=grownCap_ge w (n+k) old e
  have hcm:=grownCap_le_maxLen w (n+k) old e (by unfold maxLen;omega)
  refine⟨by simp [hown.1],.inr ⟨w.heap.size,_,_,rfl,hbase,heap_alloc_new w.drew _,hge,hcm,?_,?_⟩⟩
  ·simp only [Array.size_append,List.size_toArray,size_zeroCells,hzs,hown.1]
   simp
   omega
  ·rw [Array.toList_append,Array.toList_append,hzs,yg]
   rw [List.take_append_of_le_length (by simp [hown.1])]
   exact List.take_of_length_le (by simp [hown.1])
 rcases hown.2 with ⟨rfl,rfl⟩|⟨g,cap,cur,rfl,hbg,hg,hnc,hcm,hcs,htake⟩
 ·have hx:xs= []:=List.eq_nil_of_length_eq_zero (by simpa using hown.1)
  subst hx
  have hr:=Lib.run_append_nil_zeros (P:=P) w t tn ty e i z kq kn ht htn hi hz k hk (by omega) (by omega) hk48
  have hg:=grown 0 (by omega)
  simp only [Nat.zero_add]at hg |-
  refine⟨_,_,hr,?_,⟨rfl,rfl,rfl,by simp,fun j hj _=>Below.heap_alloc w.drew _ j hj⟩⟩
  simpa using hg
 ·have hcur:cur.size=cap:=by omega
  by_cases hroom:n+k<=cap
  ·have hst:=run_storeCells_at P g n e (List.replicate k z) 0 cur w hg (by simp;omega) (by intro u hu;rw [List.eq_of_mem_replicate hu];exact hz1)
   have hrun:(Builtin.append_ #[t,tn] ty #[.slice (some ⟨g,0,none⟩) n cap,.int kq k]).run P w=.ok (.slice (some ⟨g,0,none⟩) (n+k) cap) (w.setRow g (cur.toList.take n++List.replicate k z++cur.toList.drop (n+k)).toArray):=by
    have hk':k≠0:=by omega
    have hw:IntKind.i64.wrap (k:Int)=k:=by rw [IntKind.wrap_i64];omega
    have hneg:¬((k:Int)<0):=by omega
    have h48i:¬(281474976710656<(k:Int)*(i.bytes:Int)):=by
     rw [<-Int.natCast_mul]
     omega
    have hzl:(Builtin.zeroCells z.cells k).toList=List.replicate k z:=by rw [hzs,yg]
    have hadd:(⟨g,0,none⟩:Addr).add n=⟨g,n,none⟩:=by rw [qN,Nat.zero_add]
    simp [Builtin.append_,run_underlying ht,run_underlying htn,sizeOf,typeInfo,zeroValue,hi,hz,asInt,asIntOf,hw,hneg,hk',hsize,h48i,hroom,hzl,hadd]
    have hst':(storeCells ⟨g,n,none⟩ (List.replicate k z)).run P w=.ok () (w.setRow g (List.take n cur.toList++(List.replicate k z++List.drop (n+k) cur.toList)).toArray):=by simpa using hst
    rw [hst']
    rfl
   refine⟨_,_,hrun,⟨by simp [hown.1],.inr ⟨g,cap,_,rfl,hbg,setRow_heap w g cur _ e _ hg,hroom,hcm,?_,?_⟩⟩,⟨rfl,rfl,rfl,by simp,fun j _ hj=>setRow_other w g j _ (fun e=>hj (by simp [Value.ownBlock,e]))⟩⟩
   ·simp only [List.size_toArray,List.length_append,List.length_take,List.length_drop,Array.length_toList,List.length_replicate]
    omega
   ·have ht':cur.toList.take n=xs:=by simpa using htake
    rw [ht']
    exact List.take_left' (by simp [hown.1])
  ·have holds:∀j u,xs[j]?=some u->w.drew.cell? ((⟨g,0,none⟩:Addr).add j)=some u:=hown.cells (g:=g) rfl
   have hf:(Builtin.firstCells i.size n (.slice (some ⟨g,0,none⟩) n cap)).run P w.drew=.ok xs.toArray w.drew:=by
    have:=run_loadCells_list (P:=P) w.drew ⟨g,0,none⟩ xs holds
    have hl:xs.length=n*i.size:=by rw [hsize];exact hown.1
    rw [hl]at this
    exact this
   have hr:=Lib.run_append_grow_zeros (P:=P) w t tn ty e i z kq kn ht htn hi hz (some ⟨g,0,none⟩) n cap xs hf k hk (by omega) (by omega) (by omega) hk48 (growslice_fits (by omega) (by rw [hbb];exact hbytes))
   exact⟨_,_,hr,grown cap (by omega),⟨rfl,rfl,rfl,by simp,fun j hj _=>Below.heap_alloc w.drew _ j hj⟩⟩
end
end Go.Proofs.YtalmmiojbmpmiaaGreatDoor
