/- The walks of Same and SameLists -/
import Derived.BigQuiet
import Derived.Test.YtalmmiojbmpmiaaGreatDoorPBb
set_option linter.all false
set_option maxRecDepth 100000
set_option maxHeartbeats 400000
namespace Go.Proofs.YtalmmiojbmpmiaaGreatDoor
open Go.RowKit
theorem j6k{a b:List UInt8}(hl:a.length=b.length)(h:∀j,j<a.length->gb a j=gb b j):a=b:=by
 apply List.ext_getElem hl
 intro i h1 h2
 have:=h i h1
 simpa [gb,h1,h2]using this
theorem kL(va vb:Value)(a b:List UInt8)(S S':Nat->Prop)(w:World)(ha:BsS w S va a)(hb:BsS w S' vb b):
 Calls Tryz.prog 22 #[va,vb] w fun e w'=>e=.returned (.bool (decide (a=b)))/\∃n,w'=w.drewN n:=by
 obtain⟨aa,ca,rfl,_,_,hla,hca⟩:=ha
 obtain⟨ab,cb,rfl,_,_,hlb,hcb⟩:=hb
 by_cases hl:a.length=b.length
 ·have hne:((a.length:Int) != (b.length:Int))=false:=by simp [hl]
  rcases Nat.eq_zero_or_pos a.length with h0|h0
  ·have e1:a= []:=List.eq_nil_of_length_eq_zero h0
   have e2:b= []:=List.eq_nil_of_length_eq_zero (by omega)
   subst e1 e2
   clear hl hne hca hcb h0
   go_enter Tryz.func22,Tryz.ntmps22
   go_wp2
   refine wp_loop_rounds 1 ?_
   rw [rounds_succ]
   go_wp2
   go_ret
   exact⟨rfl,0,rfl⟩
  ·obtain⟨ba,oa,rfl,_,ha⟩:=hca h0
   obtain⟨bb,ob,rfl,_,hb⟩:=hcb (by omega)
   have Hl:=iH hl;clear hl hca hcb
   have HA:=iH ha;have HB:=iH hb;clear ha hb
   go_enter Tryz.func22,Tryz.ntmps22
   go_wp2
   go_loopw [5] (fun i wr=>∃k:Nat,k<=a.length/\i=.int .i64 k/\(∃m,wr=w.drewN m)/\Hid (∀j,j<k->gb a j=gb b j)) (fun i _=>a.length - (intOf i).toNat)
   case atStart=>exact⟨0,by omega,rfl,⟨0,rfl⟩,fun j hj=>by omega⟩
   case round=>
    obtain⟨k,hk,rfl,⟨m,rfl⟩,hg⟩:=hrel
    by_cases hlt:k<a.length
    ·have h1:=HA.out k hlt
     have hkb:(k:Int)<b.length:=by have:=Hl.out;omega
     have h2:=HB.out k (by have:=Hl.out;omega)
     by_cases he:gb a k=gb b k
     ·have e1:(gb a k != gb b k)=false:=by simp [he]
      have He:=iH he;clear he
      go_wp2
      go_quiet (fail)
      go_wp2
      go_roundw
      case rel=>
       refine⟨k+1,by omega,by go_num,⟨m+nq,by simp⟩,fun j hj=> ?_⟩
       by_cases h:j=k
       ·subst h;exact He.out
       ·exact hg.out j (by omega)
      case measure=>simp [intOf]<;>omega
     ·have e1:(gb a k != gb b k)=true:=by simp [he]
      have He:=iH he;clear he
      go_wp2
      go_quiet (fail)
      go_wp2
      go_ret
      refine⟨?_,m+nq,by simp⟩
      have hne:¬a=b:=by intro h;exact He.out (by rw [h])
      simp [hne]
    ·go_wp2
     go_ret
     refine⟨?_,_,rfl⟩
     have heq:a=b:=j6k Hl.out fun j hj=>hg.out j (by omega)
     simp [heq]
 ·have hne:((a.length:Int) != (b.length:Int))=true:=by simp;omega
  have Hl:=iH hl
  clear hca hcb hl
  go_enter Tryz.func22,Tryz.ntmps22
  go_wp2
  go_ret
  refine⟨?_,0,rfl⟩
  have hn:¬a=b:=by intro h;exact Hl.out (by rw [h])
  simp [hn]
end Go.Proofs.YtalmmiojbmpmiaaGreatDoor
