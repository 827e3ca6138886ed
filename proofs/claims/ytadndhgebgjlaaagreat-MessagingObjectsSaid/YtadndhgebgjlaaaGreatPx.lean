/- The walks of the small functions of the package modes: combine, arguments -/
import Derived.BigQuiet
import Derived.StillTailTactics
import Derived.Test.YtadndhgebgjlaaaGreatPk
import Derived.Test.YtadndhgebgjlaaaGreatPt
set_option linter.all false
set_option maxRecDepth 100000
set_option maxHeartbeats 400000
namespace Go.Proofs.YtadndhgebgjlaaaGreat
open Go.RowKit
theorem m3s{P:Prop}(h:P:=by
 exact⟨n+1,by omega,by go_num,h1,HB2.out.drew.setCell (by simpa using hg1) _⟩):P:=h
def qY(a b:List UInt8):List UInt8:=jH 16 fun j=>gb a j ^^^ gb b j
theorem kh(a b:List UInt8):(qY a b).length=16:=jw _ _
theorem Xg(va vb:Value)(a b:List UInt8)(ha:a.length=16)(hb:b.length=16)(w:World)(hva:Bs w w.heap.size va a)(hvb:Bs w w.heap.size vb b):
 Calls Tryz.prog 108 #[va,vb] w fun e w'=>∃v',e=.returned v'/\OwnB w' w.heap.size v' (qY a b)/\Below w.heap.size w w':=by
 obtain⟨Aa,na,ca,rfl⟩:=hva.form
 have Ha:=iH hva;have La:=iH ha
 obtain⟨Ab,cb,rfl,hcb,_,_,hcell⟩:=hvb
 obtain⟨bb,ob,rfl,hbb,hx⟩:=hcell (by omega)
 rw [hb]at hx hcb
 rw [hb]
 have HX:=iH hx
 clear hva hcell hx hb ha
 go_enter Tryz.func108,Tryz.ntmps108
 go_wp2_with fail
 refine(kR _ a _ Ha.out).mono ?_
 rintro e w1 ⟨v1,rfl,hown,hB⟩
 unfold OwnB at hown
 rw [La.out]at hown
 obtain⟨g,cap,rfl,hg1,hg2,hcap⟩:=kU hown (by omega)
 rw [QQ a 16 La.out]at hown
 have Hown:=iH hown;have HB:=iH hB;clear hown hB
 go_wp2
 go_loopw [11] (fun i wr=>∃n:Nat,n<=16/\i=.int .i64 n/\wr.ownsRow w.heap.size 5 1 (.slice (some ⟨g,0,none⟩) 16 cap) 16 (zE 16 (qQ n (fun j=>gb a j ^^^ gb b j) (gb a)))/\Below w.heap.size w wr) (fun i _=>16 - (intOf i).toNat)
 case atStart=>exact⟨0,by omega,rfl,by rw [Z7];exact Hown.out,HB.out⟩
 case round=>
  obtain⟨n,hn,rfl,hown,hB⟩:=hrel
  have Hown2:=iH hown;have HB2:=iH hB;clear hown hB
  by_cases hlt:n<16
  ·have hd:decide ((n:Int)<16)=true:=by simp;omega
   have c1:wr.cell? ⟨g,n,none⟩=some (U8 (gb a n)):=by rw [Hown2.out.cellAt n (by omega),xH _ _ _ hlt,QP iL]
   have f1:=Hown2.out.frozenAt n
   have c2:wr.cell? ⟨bb,ob+n,none⟩=some (U8 (gb b n)):=(HB2.out.cell (p:=⟨bb,ob+n,none⟩) hbb).trans (HX.out n hlt)
   have n1:(n:Int)<16:=by omega
   go_wp2
   refine wp_region_still_tail 10 (by kernel_rfl) (by kernel_rfl) ?_
   simp only [List.take_succ_cons,List.take_zero,List.drop_succ_cons,List.drop_zero]
   repeat(refine wpStill_step (fun K hK=> ?_);go_simp;(try go_bits);refine hK _ ?_;clear hK K)
   refine wpStill_nil ?_
   go_wp2
   go_roundw
   case rel=>
    obtain⟨h1,h2⟩:=Hown2.out.stored n (U8 (gb a n ^^^ gb b n))
    have e:=j1e 16 n (fun j=>gb a j ^^^ gb b j) (gb a)
    rw [e]at h1
    exact m3s
   case measure=>simp [intOf]<;>omega
  ·have hn16:n=16:=by omega
   subst hn16
   go_wp2
   go_ret
   refine⟨_,rfl,?_,HB2.out⟩
   show World.ownsRow _ _ _ _ _ (qY a b).length _
   rw [kh]
   unfold qY
   rw [<-Q6]
   have e:zE 16 (qQ 16 (fun j=>gb a j ^^^ gb b j) (gb a))=zE 16 fun j=>gb a j ^^^ gb b j:=qj fun j hj=>by unfold qQ;rw [iT hj]
   rw [<-e]
   exact Hown2.out
def j40(k iv b:List UInt8):Int:=if k.length=16/\iv.length=16 then(if b.length % 16=0 then 0 else 2)else 14
theorem zW(A1 A2 A3:Option Addr)(n1 n2 n3 c1 c2 c3:Nat)(k iv b:List UInt8)(h1:n1=k.length)(h2:n2=iv.length)(h3:n3=b.length)(w:World):
 Calls Tryz.prog 104 #[.slice A1 n1 c1,.slice A2 n2 c2,.slice A3 n3 c3] w fun e w'=>e=.returned (.int .i64 (j40 k iv b))/\w'=w:=by
 have E:Hid (j40 k iv b=if n1=16/\n2=16 then(if n3 % 16=0 then 0 else 2)else 14):=by rw [h1,h2,h3]<;>rfl
 clear h1 h2 h3
 by_cases a:n1=16
 ·have a':((n1:Int) != 16)=false:=by simp;omega
  by_cases b':n2=16
  ·have b'':((n2:Int) != 16)=false:=by simp;omega
   by_cases d:n3 % 16=0
   ·have d':((n3:Int) % 16 != 0)=false:=by simp;omega
    have E2:Hid (j40 k iv b=0):=by have:=E.out;rwa [iT ⟨a,b'⟩,iT d]at this
    clear a b' d E
    go_enter Tryz.func104,Tryz.ntmps104
    go_wp2
    go_ret
    exact⟨by rw [E2.out]<;>rfl,rfl⟩
   ·have d':((n3:Int) % 16 != 0)=true:=by simp;omega
    have E2:Hid (j40 k iv b=2):=by have:=E.out;rwa [iT ⟨a,b'⟩,iF d]at this
    clear a b' d E
    go_enter Tryz.func104,Tryz.ntmps104
    go_wp2
    go_ret
    exact⟨by rw [E2.out]<;>rfl,rfl⟩
  ·have b'':((n2:Int) != 16)=true:=by simp;omega
   have E2:Hid (j40 k iv b=14):=by have:=E.out;rwa [iF (fun h=>b' h.2)]at this
   clear a b' E
   go_enter Tryz.func104,Tryz.ntmps104
   go_wp2
   go_ret
   exact⟨by rw [E2.out]<;>rfl,rfl⟩
 ·have a':((n1:Int) != 16)=true:=by simp;omega
  have E2:Hid (j40 k iv b=14):=by have:=E.out;rwa [iF (fun h=>a h.1)]at this
  clear a E
  go_enter Tryz.func104,Tryz.ntmps104
  go_wp2
  go_ret
  exact⟨by rw [E2.out]<;>rfl,rfl⟩
end Go.Proofs.YtadndhgebgjlaaaGreat
