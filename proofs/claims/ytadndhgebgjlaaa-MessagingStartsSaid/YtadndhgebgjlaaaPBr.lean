/- awake of layer 6; the walks of ModesPads, ModesSeals, ModesSealsMade. Printed by gen/law6a.py -/
import Derived.Test.YtadndhgebgjlaaaPBc
import Derived.Test.YtadndhgebgjlaaaPBe
import Derived.Test.YtadndhgebgjlaaaPBd
import Derived.Test.YtadndhgebgjlaaaPx
import Derived.Test.YtadndhgebgjlaaaPz
set_option linter.unusedVariables false
set_option linter.unusedSimpArgs false
namespace Go.Proofs.Ytadndhgebgjlaaa
open Go.RowKit
def B7:List UInt8:=kE Z16 Z16 (x9 [7])
theorem Qv(l:List UInt8)(j:Nat)(r:List UInt8):∀k,j+1<=k->yx (l++ [128]++List.replicate j 0++r) (l.length+1+j) k=some l.length:=by
 induction j generalizing r with
 |zero=>
  intro k hk
  obtain⟨k,rfl⟩:∃q,k=q+1:=⟨k - 1,by omega⟩
  refine Kj _ _ _ ?_
  simp [gb]
 |succ j ih=>
  intro k hk
  obtain⟨k,rfl⟩:∃q,k=q+1:=⟨k - 1,by omega⟩
  rw [show l.length+1+(j+1)=(l.length+1+j)+1 by omega,yM]
  ·have:=ih ([0]++r) k (by omega)
   rw [List.replicate_succ',<-List.append_assoc (l++ [128]),List.append_assoc _ [0] r]
   exact this
  ·unfold gb
   have hl:(l++ [128]++List.replicate (j+1) 0).length=l.length+1+j+1:=by simp;omega
   rw [List.getD_eq_getElem?_getD,List.getElem?_append_left (by omega),List.getElem?_append_right (by simp)]
   simp
theorem Jc(l:List UInt8):yx (x9 l) (x9 l).length 16=some l.length:=by
 have h:=Qv l (xN l.length) [] 16 (by have:=q6 l.length;omega)
 rw [List.append_nil]at h
 rw [kd]
 exact h
theorem QK(l:List UInt8):Zh (x9 l)=l:=by
 unfold Zh
 rw [if_neg (by have:=kH l;have:=kd l;omega),Jc]
 show(x9 l).take l.length=l
 unfold x9
 rw [List.append_assoc,List.take_left' rfl]
theorem Xn(l:List UInt8):Zi (x9 l)=0:=by
 unfold Zi
 rw [if_neg (by have:=kH l;have:=kd l;omega),Jc]
attribute [irreducible] B7
attribute [local irreducible] kE zI
end Go.Proofs.Ytadndhgebgjlaaa
