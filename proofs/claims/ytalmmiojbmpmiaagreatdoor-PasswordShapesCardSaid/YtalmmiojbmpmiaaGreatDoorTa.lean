/- Facts on bytes as the walk meets them: the operations on the integer kind u8 said of Lean's UInt8. No program is named here; append onto a row of the call's ... -/
import Derived.Test.YtalmmiojbmpmiaaGreatDoorPp
set_option linter.all false
set_option maxHeartbeats 400000
namespace Go.Proofs.YtalmmiojbmpmiaaGreatDoor
open Go.RowKit
section
variable {P:Program} (w:World)
end
theorem rvalid_any(t:Int)(ht:x5 t)(w:World):Calls Tryz.prog 169 #[.int .i64 t] w fun e w'=>e=.returned (.bool (xy t))/\w'=w:=by
 obtain⟨hlo,hhi⟩:=ht
 by_cases h1:t>=1
 ·have d1:decide (t>=1)=true:=decide_eq_true h1
  have q1:Int.tmod t 32=t % 32:=Int.tmod_eq_emod_of_nonneg (by omega)
  have q2:Int.tmod t 256=t % 256:=Int.tmod_eq_emod_of_nonneg (by omega)
  have q3:Int.tdiv t 256=t / 256:=Int.tdiv_eq_ediv_of_nonneg (by omega)
  have q4:Int.tmod (t / 256) 32=t / 256 % 32:=Int.tmod_eq_emod_of_nonneg (by omega)
  by_cases h2:t<=255
  ·have d2:decide (t<=255)=true:=decide_eq_true h2
   have e:xy t=(t % 32 != 31):=by
    rw [Yt (p:=¬t % 32=31) (by omega)]
    by_cases h:t % 32=31<;>simp [h]
   have E:=iH e
   clear hlo hhi h1 h2 e
   go_enter Tryz.func169,Tryz.ntmps169
   go_wp2_with fail
   go_ret
   exact⟨by rw [E.out]<;>rfl,rfl⟩
  ·have d2:decide (t<=255)=false:=decide_eq_false h2
   have d3:decide (t>=256)=true:=decide_eq_true (by omega)
   have W1:=iH (IntWalk.wrap64_in (t / 256) (by omega))
   by_cases h3:t<=65535
   ·have d4:decide (t<=65535)=true:=decide_eq_true h3
    have e:xy t=((t / 256 % 32==31)&&decide (t % 256>=1)&&decide (t % 256<=127)):=by
     rw [Yt (p:=t / 256 % 32=31/\t % 256>=1/\t % 256<=127) (by omega)]
     by_cases a:t / 256 % 32=31<;>by_cases b:t % 256>=1<;>by_cases c:t % 256<=127<;>simp [a,b,c]
    obtain⟨a,ha⟩:∃a,(t / 256 % 32==31)=a:=⟨_,rfl⟩
    obtain⟨b,hb⟩:∃b,decide (t % 256>=1)=b:=⟨_,rfl⟩
    obtain⟨c,hc⟩:∃c,decide (t % 256<=127)=c:=⟨_,rfl⟩
    rw [ha,hb,hc]at e
    have E:=iH e
    clear hlo hhi h1 h2 h3 e
    have w1:=W1.out
    cases a<;>cases b<;>cases c
    all_goals
     go_enter Tryz.func169,Tryz.ntmps169
     go_wp2_with fail
     go_ret
     exact⟨by rw [E.out]<;>rfl,rfl⟩
   ·have d4:decide (t<=65535)=false:=decide_eq_false h3
    have e:xy t=false:=decide_eq_false (by omega)
    have E:=iH e
    clear hlo hhi h1 h2 h3 e
    go_enter Tryz.func169,Tryz.ntmps169
    go_wp2_with fail
    go_ret
    exact⟨by rw [E.out]<;>rfl,rfl⟩
 ·have d1:decide (t>=1)=false:=decide_eq_false h1
  have d2:decide (t>=256)=false:=decide_eq_false (by omega)
  have e:xy t=false:=decide_eq_false (by omega)
  have E:=iH e
  clear hlo hhi h1 e
  go_enter Tryz.func169,Tryz.ntmps169
  go_wp2_with fail
  go_ret
  exact⟨by rw [E.out]<;>rfl,rfl⟩
theorem rcons_any(t:Int)(ht:x5 t)(w:World):Calls Tryz.prog 143 #[.int .i64 t] w fun e w'=>e=.returned (.bool (kj t))/\w'=w:=by
 have V:=rvalid_any t ht w
 cases h:xy t with
 |false=>
  have E:Hid (kj t=false):=by unfold Hid kj;rw [h]<;>rfl
  rw [h]at V
  have V:=iH V
  clear h ht
  go_enter Tryz.func143,Tryz.ntmps143
  go_wp2_with(go_at_call 169;refine V.out.mono ?_;rintro e w' ⟨rfl,rfl⟩)
  go_ret
  exact⟨by rw [E.out]<;>rfl,rfl⟩
 |true=>
  obtain⟨r1,r2⟩:=yF h
  rw [h]at V
  have V:=iH V
  have q1:Int.tdiv t 256=t / 256:=Int.tdiv_eq_ediv_of_nonneg (by omega)
  have q2:Int.tdiv t 32=t / 32:=Int.tdiv_eq_ediv_of_nonneg (by omega)
  have q3:Int.tdiv (t / 256) 32=t / 256 / 32:=Int.tdiv_eq_ediv_of_nonneg (by omega)
  have q4:Int.tmod (t / 32) 2=t / 32 % 2:=Int.tmod_eq_emod_of_nonneg (by omega)
  have q5:Int.tmod (t / 256 / 32) 2=t / 256 / 32 % 2:=Int.tmod_eq_emod_of_nonneg (by omega)
  by_cases hb:255<t
  ·have d:decide (t>255)=true:=decide_eq_true hb
   have W1:=iH (IntWalk.wrap64_in (t / 256) (by omega))
   have W2:=iH (IntWalk.wrap64_in (t / 256 / 32) (by omega))
   have E:Hid ((t / 256 / 32 % 2==1)=kj t):=by
    unfold Hid kj
    rw [h,iT hb]
    by_cases hc:t / 256 / 32 % 2=1<;>simp [hc]
   clear h ht hb r1 r2
   have w1:=W1.out;have w2:=W2.out
   go_enter Tryz.func143,Tryz.ntmps143
   go_wp2_with(go_at_call 169;refine V.out.mono ?_;rintro e w' ⟨rfl,rfl⟩)
   go_ret
   exact⟨by rw [<-E.out]<;>rfl,rfl⟩
  ·have d:decide (t>255)=false:=decide_eq_false hb
   have W2:=iH (IntWalk.wrap64_in (t / 32) (by omega))
   have E:Hid ((t / 32 % 2==1)=kj t):=by
    unfold Hid kj
    rw [h,iF hb]
    by_cases hc:t / 32 % 2=1<;>simp [hc]
   clear h ht hb r1 r2
   have w2:=W2.out
   go_enter Tryz.func143,Tryz.ntmps143
   go_wp2_with(go_at_call 169;refine V.out.mono ?_;rintro e w' ⟨rfl,rfl⟩)
   go_ret
   exact⟨by rw [<-E.out]<;>rfl,rfl⟩
section
variable {st:Bool} {n:Nat} {l:List UInt8} {d c:Nat} {t:Int} {k:Nat} (ht:qI l=.ok (t,k))
include ht
variable {m:Int} {j:Nat} (hs:jA (l.drop k) (kj t&& !st) st=.ok (m,j))
include hs
variable (h:¬8<d) (h2:¬256<c+1) (h3:¬((l.drop (k+j)).length:Int)<m)
include h h2 h3
end
end Go.Proofs.YtalmmiojbmpmiaaGreatDoor
