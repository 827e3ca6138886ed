/- awake of layer 6; the walks of ModesPads, ModesSeals, ModesSealsMade. Printed by gen/law6a.py -/
import Derived.Test.YtadndhgebgjlaaaPu
import Derived.Test.YtadndhgebgjlaaaPBa
import Derived.Test.YtadndhgebgjlaaaPz
import Derived.Test.YtadndhgebgjlaaaPBb
import Derived.Test.YtadndhgebgjlaaaPw
set_option linter.unusedVariables false
set_option linter.unusedSimpArgs false
namespace Go.Proofs.Ytadndhgebgjlaaa
open Go.RowKit
def B7:List UInt8:=kR Z16 Z16 (xI [7])
theorem Ye(l:List UInt8)(j:Nat)(r:List UInt8):∀k,j+1<=k->Jw (l++ [128]++List.replicate j 0++r) (l.length+1+j) k=some l.length:=by
 induction j generalizing r with
 |zero=>
  intro k hk
  obtain⟨k,rfl⟩:∃q,k=q+1:=⟨k - 1,by omega⟩
  refine QF _ _ _ ?_
  simp [gb]
 |succ j ih=>
  intro k hk
  obtain⟨k,rfl⟩:∃q,k=q+1:=⟨k - 1,by omega⟩
  rw [show l.length+1+(j+1)=(l.length+1+j)+1 by omega,Ko]
  ·have:=ih ([0]++r) k (by omega)
   rw [List.replicate_succ',<-List.append_assoc (l++ [128]),List.append_assoc _ [0] r]
   exact this
  ·unfold gb
   have hl:(l++ [128]++List.replicate (j+1) 0).length=l.length+1+j+1:=by simp;omega
   rw [List.getD_eq_getElem?_getD,List.getElem?_append_left (by omega),List.getElem?_append_right (by simp)]
   simp
theorem Kn(l:List UInt8):Jw (xI l) (xI l).length 16=some l.length:=by
 have h:=Ye l (zG l.length) [] 16 (by have:=kP l.length;omega)
 rw [List.append_nil]at h
 rw [kt]
 exact h
theorem Yc(l:List UInt8):Uv (xI l)=l:=by
 unfold Uv
 rw [iF (by have:=kT l;have:=kt l;omega),Kn]
 show(xI l).take l.length=l
 unfold xI
 rw [List.append_assoc,List.take_left' rfl]
theorem Yb(l:List UInt8):Uu (xI l)=0:=by
 unfold Uu
 rw [iF (by have:=kT l;have:=kt l;omega),Kn]
attribute [irreducible] B7
attribute [local irreducible] kR yF
end Go.Proofs.Ytadndhgebgjlaaa
