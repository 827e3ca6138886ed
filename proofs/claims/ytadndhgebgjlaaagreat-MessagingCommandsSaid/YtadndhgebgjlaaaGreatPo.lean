/- Layer 2, plain: what objP says, outcome by outcome -/
import Derived.Test.YtadndhgebgjlaaaGreatPf
namespace Go.Proofs.YtadndhgebgjlaaaGreat
open Go.RowKit
section
variable {st:Bool} {n:Nat} {l:List UInt8} {d c:Nat} {t:Int} {k:Nat} (ht:kX l=.ok (t,k))
include ht
theorem Qz{er:Int}(hs:jy (l.drop k) (jX t&& !st) st=.error er):kE st n l d c=.error er:=by unfold kE yN;rw [ht];simp only [hs]
variable {m:Int} {j:Nat} (hs:jy (l.drop k) (jX t&& !st) st=.ok (m,j))
include hs
theorem Xg(h:8<d):kE st n l d c=.error 7:=by unfold kE yN;rw [ht];simp only [hs];rw [if_pos h]
theorem Xb(h:¬8<d)(h2:256<c+1):kE st n l d c=.error 2:=by unfold kE yN;rw [ht];simp only [hs];rw [if_neg h,if_pos h2]
theorem Xj(h:¬8<d)(h2:¬256<c+1)(h3:((l.drop (k+j)).length:Int)<m):kE st n l d c=.error 6:=by unfold kE yN;rw [ht];simp only [hs];rw [if_neg h,if_neg h2,if_pos h3]
variable (h:¬8<d) (h2:¬256<c+1) (h3:¬((l.drop (k+j)).length:Int)<m)
include h h2 h3
theorem UW{er:Int}(h4:m<0)(hr:je st n (l.drop (k+j)) (d+1) (c+1) true=.error er):kE st n l d c=.error er:=by unfold kE yN;rw [ht];simp only [hs];rw [if_neg h,if_neg h2,if_neg h3,if_pos h4,hr]
theorem j20{r:Lst}(h4:m<0)(hr:je st n (l.drop (k+j)) (d+1) (c+1) true=.ok r):kE st n l d c=.ok ⟨t,[],r.list,k+j+r.used,r.count⟩:=by unfold kE yN;rw [ht];simp only [hs];rw [if_neg h,if_neg h2,if_neg h3,if_pos h4,hr]
theorem Zm{er:Int}(h4:¬m<0)(h5:jX t=true)(hr:je st n ((l.drop (k+j)).take m.toNat) (d+1) (c+1) false=.error er):kE st n l d c=.error er:=by unfold kE yN;rw [ht];simp only [hs];rw [if_neg h,if_neg h2,if_neg h3,if_neg h4,if_pos h5,hr]
theorem Yw{r:Lst}(h4:¬m<0)(h5:jX t=true)(hr:je st n ((l.drop (k+j)).take m.toNat) (d+1) (c+1) false=.ok r):kE st n l d c=.ok ⟨t,[],r.list,k+j+m.toNat,r.count⟩:=by unfold kE yN;rw [ht];simp only [hs];rw [if_neg h,if_neg h2,if_neg h3,if_neg h4,if_pos h5,hr]
theorem U7(h4:¬m<0)(h5:¬jX t=true):kE st n l d c=.ok ⟨t,(l.drop (k+j)).take m.toNat,.nil,k+j+m.toNat,c+1⟩:=by unfold kE yN;rw [ht];simp only [hs];rw [if_neg h,if_neg h2,if_neg h3,if_neg h4,if_neg h5]
end
end Go.Proofs.YtadndhgebgjlaaaGreat
