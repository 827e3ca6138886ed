/- Layer 2, plain: what objP says, outcome by outcome -/
import Derived.Test.YtadndhgebgjlaaaGreatPf
set_option linter.unusedVariables false
set_option linter.unusedSimpArgs false
set_option linter.unnecessarySimpa false
namespace Go.Proofs.YtadndhgebgjlaaaGreat
open Go.RowKit
section
variable {st:Bool} {n:Nat} {l:List UInt8} {d c:Nat} {t:Int} {k:Nat} (ht:kX l=.ok (t,k))
include ht
theorem QU{er:Int}(hs:jy (l.drop k) (jW t&& !st) st=.error er):kJ st n l d c=.error er:=by unfold kJ yS;rw [ht];simp only [hs]
variable {m:Int} {j:Nat} (hs:jy (l.drop k) (jW t&& !st) st=.ok (m,j))
include hs
theorem QV(h:8<d):kJ st n l d c=.error 7:=by unfold kJ yS;rw [ht];simp only [hs];rw [iT h]
theorem QW(h:¬8<d)(h2:256<c+1):kJ st n l d c=.error 2:=by unfold kJ yS;rw [ht];simp only [hs];rw [iF h,iT h2]
theorem QX(h:¬8<d)(h2:¬256<c+1)(h3:((l.drop (k+j)).length:Int)<m):kJ st n l d c=.error 6:=by unfold kJ yS;rw [ht];simp only [hs];rw [iF h,iF h2,iT h3]
variable (h:¬8<d) (h2:¬256<c+1) (h3:¬((l.drop (k+j)).length:Int)<m)
include h h2 h3
theorem Vd{er:Int}(h4:m<0)(hr:jg st n (l.drop (k+j)) (d+1) (c+1) true=.error er):kJ st n l d c=.error er:=by unfold kJ yS;rw [ht];simp only [hs];rw [iF h,iF h2,iF h3,iT h4,hr]
theorem j1t{r:Lst}(h4:m<0)(hr:jg st n (l.drop (k+j)) (d+1) (c+1) true=.ok r):kJ st n l d c=.ok ⟨t,[],r.list,k+j+r.used,r.count⟩:=by unfold kJ yS;rw [ht];simp only [hs];rw [iF h,iF h2,iF h3,iT h4,hr]
theorem ZL{er:Int}(h4:¬m<0)(h5:jW t=true)(hr:jg st n ((l.drop (k+j)).take m.toNat) (d+1) (c+1) false=.error er):kJ st n l d c=.error er:=by unfold kJ yS;rw [ht];simp only [hs];rw [iF h,iF h2,iF h3,iF h4,iT h5,hr]
theorem YF{r:Lst}(h4:¬m<0)(h5:jW t=true)(hr:jg st n ((l.drop (k+j)).take m.toNat) (d+1) (c+1) false=.ok r):kJ st n l d c=.ok ⟨t,[],r.list,k+j+m.toNat,r.count⟩:=by unfold kJ yS;rw [ht];simp only [hs];rw [iF h,iF h2,iF h3,iF h4,iT h5,hr]
theorem Ve(h4:¬m<0)(h5:¬jW t=true):kJ st n l d c=.ok ⟨t,(l.drop (k+j)).take m.toNat,.nil,k+j+m.toNat,c+1⟩:=by unfold kJ yS;rw [ht];simp only [hs];rw [iF h,iF h2,iF h3,iF h4,iF h5]
end
end Go.Proofs.YtadndhgebgjlaaaGreat
