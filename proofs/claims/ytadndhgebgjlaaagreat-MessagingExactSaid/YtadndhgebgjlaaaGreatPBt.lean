import Derived.Test.YtadndhgebgjlaaaGreatPz
import Derived.Test.YtadndhgebgjlaaaGreatPs
import Derived.Test.YtadndhgebgjlaaaGreatPq
import Derived.Test.YtadndhgebgjlaaaGreatPBa
import Derived.Test.YtadndhgebgjlaaaGreatPx
import Derived.Test.YtadndhgebgjlaaaGreatPBb
set_option linter.all false
namespace Go.Proofs.YtadndhgebgjlaaaGreat
open Go.RowKit
def B7:List UInt8:=kY Z16 Z16 (xP [7])
theorem j09(l:List UInt8)(j:Nat)(r:List UInt8):∀k,j+1<=k->J7 (l++ [128]++List.replicate j 0++r) (l.length+1+j) k=some l.length:=by
 induction j generalizing r with
 |zero=>
  intro k hk
  obtain⟨k,rfl⟩:∃q,k=q+1:=⟨k - 1,by omega⟩
  refine QA _ _ _ ?_
  simp [gb]
 |succ j ih=>
  intro k hk
  obtain⟨k,rfl⟩:∃q,k=q+1:=⟨k - 1,by omega⟩
  rw [show l.length+1+(j+1)=(l.length+1+j)+1 by omega,Ke]
  ·have:=ih ([0]++r) k (by omega)
   rw [List.replicate_succ',<-List.append_assoc (l++ [128]),List.append_assoc _ [0] r]
   exact this
  ·unfold gb
   have hl:(l++ [128]++List.replicate (j+1) 0).length=l.length+1+j+1:=by simp;omega
   rw [List.getD_eq_getElem?_getD,List.getElem?_append_left (by omega),List.getElem?_append_right (by simp)]
   simp
theorem XG(l:List UInt8):J7 (xP l) (xP l).length 16=some l.length:=by
 have h:=j09 l (zv l.length) [] 16 (by have:=kW l.length;omega)
 rw [List.append_nil]at h
 rw [ky]
 exact h
theorem j08(l:List UInt8):Zs (xP l)=l:=by
 unfold Zs
 rw [iF (by have:=qq l;have:=ky l;omega),XG]
 show(xP l).take l.length=l
 unfold xP
 rw [List.append_assoc,List.take_left' rfl]
theorem j07(l:List UInt8):Zr (xP l)=0:=by
 unfold Zr
 rw [iF (by have:=qq l;have:=ky l;omega),XG]
attribute [irreducible] B7
attribute [local irreducible] kY yg
end Go.Proofs.YtadndhgebgjlaaaGreat
