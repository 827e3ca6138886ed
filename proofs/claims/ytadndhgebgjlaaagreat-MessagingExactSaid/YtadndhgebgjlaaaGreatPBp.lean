/- A region that draws, in which some operations follow each other in one order and the others only read what stands: what holds behind each of those that follo... -/
import Derived.Test.YtadndhgebgjlaaaGreatPo
set_option linter.all false
namespace Go.Proofs.YtadndhgebgjlaaaGreat
def JC(ch:List Nat)(G:Nat->(Nat->Value)->World->Prop)(L:Nat->Bool)(v:Nat->Value)(w:World):Prop:=
 ∃k,k<=ch.length/\(∀j,j<ch.length->L (ch.getD j 0)=decide (j<k))/\G k (fun j=>if j<k then v (ch.getD j 0)else undef) w
section
variable {ch:List Nat} {G:Nat->(Nat->Value)->World->Prop} {L:Nat->Bool} {v:Nat->Value} {w w2:World} {y:Value}
theorem j12{ch:List Nat}{j:Nat}(h:j<ch.length):ch.getD j 0∈ch:=by
 rw [List.getD_eq_getElem?_getD,List.getElem?_eq_getElem h]
 exact List.getElem_mem _
theorem JC.start(h:G 0 (fun _=>undef) w):JC ch G (fun _=>false) v w:=
 ⟨0,Nat.zero_le _,fun j _=>by simp,by simpa using h⟩
theorem JC.inv{I:World->Prop}(hI:∀k u w,G k u w->I w)(h:JC ch G L v w):I w:=by
 obtain⟨k,_,_,h⟩:=h
 exact hI _ _ _ h
theorem JC.same(h:JC ch G L v w)(i:Nat)(hi:ch.contains i=false):JC ch G (jp L i) (jN v i y) w:=by
 obtain⟨k,h1,h2,h3⟩:=h
 have hne:∀j,j<ch.length->ch.getD j 0≠i:=fun j hj e=>by
  have:=j12 hj
  rw [e]at this
  simp [this]at hi
 refine⟨k,h1,fun j hj=> ?_,?_⟩
 ·unfold jp
  rw [iF (hne j hj)]
  exact h2 j hj
 ·have e:(fun j=>if j<k then jN v i y (ch.getD j 0)else undef)=fun j=>if j<k then v (ch.getD j 0)else undef:=by
   funext j
   split
   ·rename_i hj
    unfold jN
    rw [iF (hne j (by omega))]
   ·rfl
  rw [e]
  exact h3
theorem JC.at_(h:JC ch G L v w)(k:Nat)(hk:k<ch.length)(hL:L (ch.getD k 0)=false)(hp:k=0\/L (ch.getD (k - 1) 0)=true):G k (fun j=>if j<k then v (ch.getD j 0)else undef) w:=by
 obtain⟨k',h1,h2,h3⟩:=h
 have e1:=h2 k hk
 rw [hL]at e1
 have e1:=of_decide_eq_false e1.symm
 have:k'=k:=by
  rcases hp with h0|h0
  ·omega
  ·have e2:=h2 (k - 1) (by omega)
   rw [h0]at e2
   have:=of_decide_eq_true e2.symm
   omega
 subst this
 exact h3
theorem KB{ch:List Nat}(h:ch.Nodup){i j:Nat}(hi:i<ch.length)(hj:j<ch.length)(e:ch.getD i 0=ch.getD j 0):i=j:=by
 rw [List.getD_eq_getElem?_getD,List.getD_eq_getElem?_getD,List.getElem?_eq_getElem hi,List.getElem?_eq_getElem hj]at e
 exact(List.getElem_inj h).1 e
theorem JC.next(h:JC ch G L v w)(k:Nat)(hk:k<ch.length)(hL:L (ch.getD k 0)=false)(hp:k=0\/L (ch.getD (k - 1) 0)=true)(hn:ch.Nodup)(hG:G (k+1) (fun j=>if j<k then v (ch.getD j 0)else if j=k then y else undef) w2):JC ch G (jp L (ch.getD k 0)) (jN v (ch.getD k 0) y) w2:=by
 obtain⟨k',h1,h2,_⟩:=h
 have e1:=h2 k hk
 rw [hL]at e1
 have e1:=of_decide_eq_false e1.symm
 have hkk:k'=k:=by
  rcases hp with h0|h0
  ·omega
  ·have e2:=h2 (k - 1) (by omega)
   rw [h0]at e2
   have:=of_decide_eq_true e2.symm
   omega
 subst hkk
 refine⟨k'+1,hk,fun j hj=> ?_,?_⟩
 ·by_cases hjk:j=k'
  ·subst hjk
   unfold jp
   rw [iT rfl]
   exact(decide_eq_true (by omega)).symm
  ·have:ch.getD j 0≠ch.getD k' 0:=fun e=>hjk (KB hn hj hk e)
   unfold jp
   rw [iF this,h2 j hj]
   rw [Bool.eq_iff_iff,decide_eq_true_eq,decide_eq_true_eq]
   omega
 ·have e:(fun j=>if j<k'+1 then jN v (ch.getD k' 0) y (ch.getD j 0)else undef)=fun j=>if j<k' then v (ch.getD j 0)else if j=k' then y else undef:=by
   funext j
   by_cases hjk:j=k'
   ·subst hjk
    rw [iT (by omega),iF (by omega),iT rfl]
    unfold jN
    rw [iT rfl]
   ·by_cases hlt:j<k'
    ·rw [iT (by omega),iT hlt]
     have:ch.getD j 0≠ch.getD k' 0:=fun e=>hjk (KB hn (by omega) hk e)
     unfold jN
     rw [iF this]
    ·rw [iF (by omega),iF hlt,iF hjk]
  rw [e]
  exact hG
theorem JC.fin(h:JC ch G L v w)(hL:∀j,j<ch.length->L (ch.getD j 0)=true):G ch.length (fun j=>if j<ch.length then v (ch.getD j 0)else undef) w:=by
 obtain⟨k,h1,h2,h3⟩:=h
 have:k=ch.length:=by
  rcases Nat.lt_or_ge k ch.length with hk|hk
  ·have e:=h2 k hk
   rw [hL k hk]at e
   have:=of_decide_eq_true e.symm
   omega
  ·omega
 subst this
 exact h3
end
end Go.Proofs.YtadndhgebgjlaaaGreat
