/- Layer 2, plain: what objP says, outcome by outcome -/
import Derived.Test.YtadndhgebgjlaaaGreatPf
set_option linter.all false
namespace Go.Proofs.YtadndhgebgjlaaaGreat
open Go.RowKit
section
variable {st:Bool} {n:Nat} {l:List UInt8} {d c:Nat} {t:Int} {k:Nat} (ht:qg l=.ok (t,k))
include ht
theorem Xz{er:Int}(hs:jG (l.drop k) (jY t&& !st) st=.error er):kP st n l d c=.error er:=by unfold kP yL;rw [ht];simp only [hs]
variable {m:Int} {j:Nat} (hs:jG (l.drop k) (jY t&& !st) st=.ok (m,j))
include hs
theorem XA(h:8<d):kP st n l d c=.error 7:=by unfold kP yL;rw [ht];simp only [hs];rw [iT h]
theorem XB(h:¬8<d)(h2:256<c+1):kP st n l d c=.error 2:=by unfold kP yL;rw [ht];simp only [hs];rw [iF h,iT h2]
theorem XC(h:¬8<d)(h2:¬256<c+1)(h3:((l.drop (k+j)).length:Int)<m):kP st n l d c=.error 6:=by unfold kP yL;rw [ht];simp only [hs];rw [iF h,iF h2,iT h3]
variable (h:¬8<d) (h2:¬256<c+1) (h3:¬((l.drop (k+j)).length:Int)<m)
include h h2 h3
theorem VY{er:Int}(h4:m<0)(hr:jh st n (l.drop (k+j)) (d+1) (c+1) true=.error er):kP st n l d c=.error er:=by unfold kP yL;rw [ht];simp only [hs];rw [iF h,iF h2,iF h3,iT h4,hr]
theorem j2r{r:Lst}(h4:m<0)(hr:jh st n (l.drop (k+j)) (d+1) (c+1) true=.ok r):kP st n l d c=.ok ⟨t,[],r.list,k+j+r.used,r.count⟩:=by unfold kP yL;rw [ht];simp only [hs];rw [iF h,iF h2,iF h3,iT h4,hr]
theorem Yv{er:Int}(h4:¬m<0)(h5:jY t=true)(hr:jh st n ((l.drop (k+j)).take m.toNat) (d+1) (c+1) false=.error er):kP st n l d c=.error er:=by unfold kP yL;rw [ht];simp only [hs];rw [iF h,iF h2,iF h3,iF h4,iT h5,hr]
theorem Ut{r:Lst}(h4:¬m<0)(h5:jY t=true)(hr:jh st n ((l.drop (k+j)).take m.toNat) (d+1) (c+1) false=.ok r):kP st n l d c=.ok ⟨t,[],r.list,k+j+m.toNat,r.count⟩:=by unfold kP yL;rw [ht];simp only [hs];rw [iF h,iF h2,iF h3,iF h4,iT h5,hr]
theorem VZ(h4:¬m<0)(h5:¬jY t=true):kP st n l d c=.ok ⟨t,(l.drop (k+j)).take m.toNat,.nil,k+j+m.toNat,c+1⟩:=by unfold kP yL;rw [ht];simp only [hs];rw [iF h,iF h2,iF h3,iF h4,iF h5]
end
end Go.Proofs.YtadndhgebgjlaaaGreat
