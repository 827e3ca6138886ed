/- Layer 2, plain: what objP says, outcome by outcome -/
import Derived.Test.YtadndhgebgjlaaaPe
set_option linter.unusedVariables false
set_option linter.unusedSimpArgs false
namespace Go.Proofs.Ytadndhgebgjlaaa
open Go.RowKit
section
variable {st:Bool} {n:Nat} {l:List UInt8} {d c:Nat} {t:Int} {k:Nat} (ht:xb l=.ok (t,k))
include ht
theorem Zq{er:Int}(hs:js (l.drop k) (jV t&& !st) st=.error er):kr st n l d c=.error er:=by unfold kr Jj;rw [ht];simp only [hs]
variable {m:Int} {j:Nat} (hs:js (l.drop k) (jV t&& !st) st=.ok (m,j))
include hs
theorem Zr(h:8<d):kr st n l d c=.error 7:=by unfold kr Jj;rw [ht];simp only [hs];rw [iT h]
theorem Zs(h:¬8<d)(h2:256<c+1):kr st n l d c=.error 2:=by unfold kr Jj;rw [ht];simp only [hs];rw [iF h,iT h2]
theorem Zt(h:¬8<d)(h2:¬256<c+1)(h3:((l.drop (k+j)).length:Int)<m):kr st n l d c=.error 6:=by unfold kr Jj;rw [ht];simp only [hs];rw [iF h,iF h2,iT h3]
variable (h:¬8<d) (h2:¬256<c+1) (h3:¬((l.drop (k+j)).length:Int)<m)
include h h2 h3
theorem j0r{er:Int}(h4:m<0)(hr:jj st n (l.drop (k+j)) (d+1) (c+1) true=.error er):kr st n l d c=.error er:=by unfold kr Jj;rw [ht];simp only [hs];rw [iF h,iF h2,iF h3,iT h4,hr]
theorem j0q{r:Lst}(h4:m<0)(hr:jj st n (l.drop (k+j)) (d+1) (c+1) true=.ok r):kr st n l d c=.ok ⟨t,[],r.list,k+j+r.used,r.count⟩:=by unfold kr Jj;rw [ht];simp only [hs];rw [iF h,iF h2,iF h3,iT h4,hr]
theorem US{er:Int}(h4:¬m<0)(h5:jV t=true)(hr:jj st n ((l.drop (k+j)).take m.toNat) (d+1) (c+1) false=.error er):kr st n l d c=.error er:=by unfold kr Jj;rw [ht];simp only [hs];rw [iF h,iF h2,iF h3,iF h4,iT h5,hr]
theorem YX{r:Lst}(h4:¬m<0)(h5:jV t=true)(hr:jj st n ((l.drop (k+j)).take m.toNat) (d+1) (c+1) false=.ok r):kr st n l d c=.ok ⟨t,[],r.list,k+j+m.toNat,r.count⟩:=by unfold kr Jj;rw [ht];simp only [hs];rw [iF h,iF h2,iF h3,iF h4,iT h5,hr]
theorem VB(h4:¬m<0)(h5:¬jV t=true):kr st n l d c=.ok ⟨t,(l.drop (k+j)).take m.toNat,.nil,k+j+m.toNat,c+1⟩:=by unfold kr Jj;rw [ht];simp only [hs];rw [iF h,iF h2,iF h3,iF h4,iF h5]
end
end Go.Proofs.Ytadndhgebgjlaaa
