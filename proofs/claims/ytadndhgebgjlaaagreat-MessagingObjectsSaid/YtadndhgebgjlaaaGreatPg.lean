/- Layer 2: the walks of Valid, Constructed, both sides; Layer 2: the shortest form of a length, the reference's side; Layer 2: the walks of check, both sides -/
import Derived.BigQuiet
import Derived.Deep.Cut
import Derived.Test.YtadndhgebgjlaaaGreatPf
set_option linter.all false
set_option maxHeartbeats 1000000
namespace Go.Proofs.YtadndhgebgjlaaaGreat
open Go.RowKit Go.Deep
theorem mb{P:Prop}(h:P:=by
 go_ret
 exact⟨by rw [E.out]<;>rfl,rfl⟩):P:=h
theorem mG{P:Prop}(h:P:=by
 show(w.heap.modify p _)[p]?=_
 rw [Array.getElem?_modify,iT rfl,h]
 rfl):P:=h
theorem mU{P:Prop}(h:P:=by
 rcases Nat.eq_zero_or_pos L.len with h0|h0
 ·exact⟨0,0,fun h=>by omega⟩
 ·obtain⟨b,off,h1,h2,h3,h4⟩:=hcells h0
  exact⟨b,off,fun _=>⟨h1,h2,h4⟩⟩):P:=h
theorem m0e{P:Prop}(h:P:=by
 rw [hchk.out]at B
 clear et ec
 by_cases h8:8<d
 ·have E:Hid (L.chk d=7):=by rw [B,iT h8]<;>rfl
  clear B
  go_wp2_with(first|(go_at_call 134;refine(Hv _).out.mono ?_;rintro e w' ⟨rfl,rfl⟩)|(go_at_call 133;refine(Hc _).out.mono ?_;rintro e w' ⟨rfl,rfl⟩))
  go_ret
  exact⟨by rw [E.out]<;>rfl,by rw [E.out];exact xO (r:=7) Hg.out Hpb.out (by decide) _⟩
 ·rw [iF h8]at B
  obtain⟨HI,HG⟩:=qF Hg.out Hpb.out (.cells #[.int .i64 t,.slice xa v.length xc,.slice ka k.len kc] 61)
  have HB:=Xu (p:=p) (_t:=t) (cc:=cc) h6 h7 h8x H9.out Hpb.out (.cells #[.int .i64 t,.slice xa v.length xc,.slice ka k.len kc] 61)
  have HK:=ih k (.slice ka k.len kc) (d+1) (cc+1) p _ (by omega) HB (by omega) (by omega) (by omega) HI
  rw [show((d+1:Nat):Int)=(d:Int)+1 from rfl]at HK
  have HK:=iH HK;have HI:=iH HI;have HG:=iH HG;have HB:=iH HB
  by_cases hk0:k.chk (d+1)=0
  ·rw [iT hk0]at B
   rw [hk0]at HK
   have B:=iH B;clear hk0
   go_wp2_with(first|(go_at_call 134;refine(Hv _).out.mono ?_;rintro e w' ⟨rfl,rfl⟩)|(go_at_call 133;refine(Hc _).out.mono ?_;rintro e w' ⟨rfl,rfl⟩)|(go_at_call 110;refine HK.out.mono ?_;rintro e w2 ⟨rfl,hpost⟩;have hpost:=iH hpost))
   go_roundg r.len
   case measure=>simp [Ns.len]
   case rel=>
    obtain⟨⟨c2,hb2,hc2⟩,hg2⟩:=hpost.out
    have hc2':=hc2 rfl
    refine⟨r,j+1,c2,rfl,by omega,by go_num,B.out.symm,?_,by omega,by omega,?_,hb2,kr HG.out hg2⟩
    ·show _=_
     omega
    ·rw [Nat.add_mul,<-Nat.add_assoc]
     exact(NsAt.keep' H10.out hbp hbl' Hpb.out _ hg2)
  ·rw [iF hk0]at B
   have e0:((k.chk (d+1)) != 0)=true:=by simp [hk0]
   have B:=iH B;have Hk0:=iH hk0;clear hk0
   go_wp2_with(first|(go_at_call 134;refine(Hv _).out.mono ?_;rintro e w' ⟨rfl,rfl⟩)|(go_at_call 133;refine(Hc _).out.mono ?_;rintro e w' ⟨rfl,rfl⟩)|(go_at_call 110;refine HK.out.mono ?_;rintro e w2 ⟨rfl,hpost⟩;have hpost:=iH hpost))
   go_ret
   obtain⟨⟨c2,hb2,hc2⟩,hg2⟩:=hpost.out
   exact⟨by rw [B.out]<;>rfl,⟨_,hb2,fun h=>absurd (by rw [<-B.out];exact h) Hk0.out⟩,kr HG.out hg2⟩):P:=h
theorem m1i{P:Prop}(h:P:=by
 clear et ec
 go_wp2_with(first|(go_at_call 134;refine(Hv _).out.mono ?_;rintro e w' ⟨rfl,rfl⟩)|(go_at_call 133;refine(Hc _).out.mono ?_;rintro e w' ⟨rfl,rfl⟩))
 go_ret
 exact⟨by rw [E.out]<;>rfl,by rw [E.out];exact xO (r:=1) Hg.out Hpb.out (by decide) _⟩):P:=h
theorem m23{P:Prop}(h:P:=by
 clear h ht hb r1 r2
 go_enter Tryz.func133,Tryz.ntmps133
 go_wp2_with(go_at_call 134;refine V.out.mono ?_;rintro e w' ⟨rfl,rfl⟩)
 go_ret
 exact⟨by rw [<-E.out]<;>rfl,rfl⟩):P:=h
theorem m28{P:Prop}(h:P:=by
 rw [QM (p:=t / 256 % 32=31/\t % 256>=1/\t % 256<=127) (by omega)]
 by_cases a:t / 256 % 32=31<;>by_cases b:t % 256>=1<;>by_cases c:t % 256<=127<;>simp [a,b,c]):P:=h
theorem m2b{P:Prop}(h:P:=by
 go_enter Tryz.func95,Tryz.ntmps95
 go_wp2_with(go_at_call 94;refine V.out.mono ?_;rintro e w' ⟨rfl,rfl⟩)
 go_ret
 exact⟨by rw [<-E.out]<;>rfl,rfl⟩):P:=h
theorem m3r{P:Prop}(h:P:=by
 go_wp2_with fail
 go_ret
 rw [E.out]
 exact⟨_,rfl,Qp w [ofI n] _ (by simp) _ rfl,iA⟩):P:=h
theorem m44{P:Prop}(h:P:=by
 rw [QM (p:=¬t % 32=31) (by omega)]
 by_cases h:t % 32=31<;>simp [h]):P:=h
theorem Qq(t:Int)(h0:0<=t)(h1:t<=9223372036854775807)(w:World):Calls Tryz.prog 142 #[.int .i64 t] w fun e w'=>e=.returned (.bool (t % 32==31))/\w'=w:=by
 have hb:bits .and .i64 t 31=t % 32:=bits_mask .i64 63 (by decide) (fun n a b=>IntWalk.i64_in n ⟨by omega,by omega⟩) 5 (by decide) t h0 (by omega)
 go_enter Tryz.func142,Tryz.ntmps142
 go_wp2
 go_ret
 exact⟨rfl,rfl⟩
theorem QM{t:Int}{p:Prop} [Decidable p](h:((1<=t/\t<=255/\¬t % 32=31)\/(256<=t/\t<=65535/\t / 256 % 32=31/\1<=t % 256/\t % 256<=127))↔p):qX t=decide p:=by unfold qX;exact decide_eq_decide.2 h
theorem Ks(t:Int)(ht:kB t)(w:World):Calls Tryz.prog 134 #[.int .i64 t] w fun e w'=>e=.returned (.bool (qX t))/\w'=w:=by
 obtain⟨hlo,hhi⟩:=ht
 by_cases h1:t<256
 ·have d1:decide (t<256)=true:=decide_eq_true h1
  by_cases h2:0<t
  ·have d2:decide (t>0)=true:=decide_eq_true h2
   have e:qX t= !(t % 32==31):=by
    exact m44
   have E:=iH e
   have L:=iH (Qq t (by omega) (by omega) w)
   clear hlo hhi h1 h2 e
   go_enter Tryz.func134,Tryz.ntmps134
   go_wp2_with(go_at_call 142;refine L.out.mono ?_;rintro e w' ⟨rfl,rfl⟩)
   exact mb
  ·have d2:decide (t>0)=false:=decide_eq_false h2
   have e:qX t=false:=decide_eq_false (by omega)
   have E:=iH e
   clear hlo hhi h1 h2 e
   go_enter Tryz.func134,Tryz.ntmps134
   go_wp2_with fail
   exact mb
 ·have d1:decide (t<256)=false:=decide_eq_false h1
  have m1:bits .and .i64 t 255=t % 256:=bits_mask .i64 63 (by decide) (fun n a b=>IntWalk.i64_in n ⟨by omega,by omega⟩) 8 (by decide) t (by omega) (by omega)
  have L:=iH (Qq (t / 256) (by omega) (by omega) w)
  by_cases h2:t / 256<256
  ·have d2:decide (t / 256<256)=true:=decide_eq_true h2
   have e:qX t=((t / 256 % 32==31)&&decide (t % 256>=1)&&decide (t % 256<=127)):=by
    exact m28
   obtain⟨a,ha⟩:∃a,(t / 256 % 32==31)=a:=⟨_,rfl⟩
   obtain⟨b,hb⟩:∃b,decide (t % 256>=1)=b:=⟨_,rfl⟩
   obtain⟨c,hc⟩:∃c,decide (t % 256<=127)=c:=⟨_,rfl⟩
   rw [ha,hb,hc]at e
   rw [ha]at L
   have E:=iH e
   clear hlo hhi h1 h2 e ha
   cases a<;>cases b<;>cases c
   all_goals
    go_enter Tryz.func134,Tryz.ntmps134
    go_wp2_with(go_at_call 142;refine L.out.mono ?_;rintro e w' ⟨rfl,rfl⟩)
    go_ret
    exact⟨by rw [E.out]<;>rfl,rfl⟩
  ·have d2:decide (t / 256<256)=false:=decide_eq_false h2
   have e:qX t=false:=decide_eq_false (by omega)
   have E:=iH e
   clear hlo hhi h1 h2 e
   go_enter Tryz.func134,Tryz.ntmps134
   go_wp2_with fail
   exact mb
theorem Ye{t:Int}(h0:0<=t)(h1:t<256):(bits .and .i64 t 32 != 0)=decide (t / 32 % 2=1):=by
 obtain⟨n,rfl⟩:=Int.eq_ofNat_of_zero_le h0
 have h:(List.range 256).all (fun n=>(bits .and .i64 (n:Int) 32 != 0)==decide ((n:Int) / 32 % 2=1))=true:=by decide+kernel
 have:=List.all_eq_true.1 h n (List.mem_range.2 (by omega))
 simpa using this
theorem J8{t:Int}(h:qX t=true):1<=t/\t<=65535:=by
 have:=of_decide_eq_true h
 omega
section
variable(t:Int)(ht:kB t)(w:World)
include t ht w
theorem yb:Calls Tryz.prog 133 #[.int .i64 t] w fun e w'=>e=.returned (.bool (jY t))/\w'=w:=by
 have V:=Ks t ht w
 cases h:qX t with
 |false=>
  have E:Hid (jY t=false):=by unfold Hid jY;rw [h]<;>rfl
  rw [h]at V
  have V:=iH V
  clear h ht
  go_enter Tryz.func133,Tryz.ntmps133
  go_wp2_with(go_at_call 134;refine V.out.mono ?_;rintro e w' ⟨rfl,rfl⟩)
  exact mb
 |true=>
  obtain⟨r1,r2⟩:=J8 h
  rw [h]at V
  have V:=iH V
  by_cases hb:255<t
  ·have d:decide (t>255)=true:=decide_eq_true hb
   have E:Hid ((bits .and .i64 (t / 256) 32 != 0)=jY t):=by
    unfold Hid jY
    rw [h,iT hb,Ye (by omega) (by omega)]<;>rfl
   exact m23
  ·have d:decide (t>255)=false:=decide_eq_false hb
   have E:Hid ((bits .and .i64 t 32 != 0)=jY t):=by
    unfold Hid jY
    rw [h,iF hb,Ye (by omega) (by omega)]<;>rfl
   exact m23
theorem J4:Calls Tryz.prog 94 #[.int .i64 t] w fun e w'=>e=.returned (.bool (qX t))/\w'=w:=by
 obtain⟨hlo,hhi⟩:=ht
 by_cases h1:t>=1
 ·have d1:decide (t>=1)=true:=decide_eq_true h1
  have q1:Int.tmod t 32=t % 32:=Int.tmod_eq_emod_of_nonneg (by omega)
  have q2:Int.tmod t 256=t % 256:=Int.tmod_eq_emod_of_nonneg (by omega)
  have q3:Int.tdiv t 256=t / 256:=Int.tdiv_eq_ediv_of_nonneg (by omega)
  have q4:Int.tmod (t / 256) 32=t / 256 % 32:=Int.tmod_eq_emod_of_nonneg (by omega)
  by_cases h2:t<=255
  ·have d2:decide (t<=255)=true:=decide_eq_true h2
   have e:qX t=(t % 32 != 31):=by
    exact m44
   have E:=iH e
   clear hlo hhi h1 h2 e
   go_enter Tryz.func94,Tryz.ntmps94
   go_wp2_with fail
   exact mb
  ·have d2:decide (t<=255)=false:=decide_eq_false h2
   have d3:decide (t>=256)=true:=decide_eq_true (by omega)
   have W1:=iH (IntWalk.wrap64_in (t / 256) (by omega))
   by_cases h3:t<=65535
   ·have d4:decide (t<=65535)=true:=decide_eq_true h3
    have e:qX t=((t / 256 % 32==31)&&decide (t % 256>=1)&&decide (t % 256<=127)):=by
     exact m28
    obtain⟨a,ha⟩:∃a,(t / 256 % 32==31)=a:=⟨_,rfl⟩
    obtain⟨b,hb⟩:∃b,decide (t % 256>=1)=b:=⟨_,rfl⟩
    obtain⟨c,hc⟩:∃c,decide (t % 256<=127)=c:=⟨_,rfl⟩
    rw [ha,hb,hc]at e
    have E:=iH e
    clear hlo hhi h1 h2 h3 e
    have w1:=W1.out
    cases a<;>cases b<;>cases c
    all_goals
     go_enter Tryz.func94,Tryz.ntmps94
     go_wp2_with fail
     go_ret
     exact⟨by rw [E.out]<;>rfl,rfl⟩
   ·have d4:decide (t<=65535)=false:=decide_eq_false h3
    have e:qX t=false:=decide_eq_false (by omega)
    have E:=iH e
    clear hlo hhi h1 h2 h3 e
    go_enter Tryz.func94,Tryz.ntmps94
    go_wp2_with fail
    exact mb
 ·have d1:decide (t>=1)=false:=decide_eq_false h1
  have d2:decide (t>=256)=false:=decide_eq_false (by omega)
  have e:qX t=false:=decide_eq_false (by omega)
  have E:=iH e
  clear hlo hhi h1 e
  go_enter Tryz.func94,Tryz.ntmps94
  go_wp2_with fail
  exact mb
theorem yw:Calls Tryz.prog 95 #[.int .i64 t] w fun e w'=>e=.returned (.bool (jY t))/\w'=w:=by
 have V:=J4 t ht w
 cases h:qX t with
 |false=>
  have E:Hid (jY t=false):=by unfold Hid jY;rw [h]<;>rfl
  rw [h]at V
  have V:=iH V
  clear h ht
  go_enter Tryz.func95,Tryz.ntmps95
  go_wp2_with(go_at_call 94;refine V.out.mono ?_;rintro e w' ⟨rfl,rfl⟩)
  exact mb
 |true=>
  obtain⟨r1,r2⟩:=J8 h
  rw [h]at V
  have V:=iH V
  have q1:Int.tdiv t 256=t / 256:=Int.tdiv_eq_ediv_of_nonneg (by omega)
  have q2:Int.tdiv t 32=t / 32:=Int.tdiv_eq_ediv_of_nonneg (by omega)
  have q3:Int.tdiv (t / 256) 32=t / 256 / 32:=Int.tdiv_eq_ediv_of_nonneg (by omega)
  have q4:Int.tmod (t / 32) 2=t / 32 % 2:=Int.tmod_eq_emod_of_nonneg (by omega)
  have q5:Int.tmod (t / 256 / 32) 2=t / 256 / 32 % 2:=Int.tmod_eq_emod_of_nonneg (by omega)
  by_cases hb:255<t
  ·have d:decide (t>255)=true:=decide_eq_true hb
   have W1:=iH (IntWalk.wrap64_in (t / 256) (by omega))
   have W2:=iH (IntWalk.wrap64_in (t / 256 / 32) (by omega))
   have E:Hid ((t / 256 / 32 % 2==1)=jY t):=by
    unfold Hid jY
    rw [h,iT hb]
    by_cases hc:t / 256 / 32 % 2=1<;>simp [hc]
   clear h ht hb r1 r2
   have w1:=W1.out;have w2:=W2.out
   exact m2b
  ·have d:decide (t>255)=false:=decide_eq_false hb
   have W2:=iH (IntWalk.wrap64_in (t / 32) (by omega))
   have E:Hid ((t / 32 % 2==1)=jY t):=by
    unfold Hid jY
    rw [h,iF hb]
    by_cases hc:t / 32 % 2=1<;>simp [hc]
   clear h ht hb r1 r2
   have w2:=W2.out
   exact m2b
end
def qT(n:Nat):List UInt8:=if n<=127 then [ofI n]else if n<=255 then [129,ofI n]else [130,ofI ((n:Int) / 256),ofI n]
theorem Qp(w:World)(l:List UInt8)(t:TypeId)(hl:l.length<=140737488355328)(c:Array Value)(hc:c=(l.map U8).toArray):
 BsS (w.alloc (.cells c t)) (New w (w.alloc (.cells c t))) (.slice (some ⟨w.heap.size,0,none⟩) l.length l.length) l:=by
 subst hc
 refine⟨_,_,rfl,Nat.le_refl _,by omega,hl,fun _=>⟨_,_,rfl,⟨Nat.le_refl _,by simp⟩,fun j hj=> ?_⟩⟩
 rw [Nat.zero_add,cell_of_row _ _ _ _ _ _ (iN)]
 exact(List.getElem?_toArray ..).trans (k9 l j hj)
theorem kM(n:Nat)(hn:n<=65535)(w:World):Calls Tryz.prog 96 #[.int .i64 n] w fun e w'=>∃v',e=.returned v'/\BsS w' (New w w') v' (qT n)/\Below w.heap.size w w':=by
 by_cases h1:n<=127
 ·have d1:decide ((n:Int)<=127)=true:=decide_eq_true (by omega)
  have E:Hid (qT n= [ofI n]):=iT h1
  clear h1 hn
  go_enter Tryz.func96,Tryz.ntmps96
  exact m3r
 ·have d1:decide ((n:Int)<=127)=false:=decide_eq_false (by omega)
  by_cases h2:n<=255
  ·have d2:decide ((n:Int)<=255)=true:=decide_eq_true (by omega)
   have E:Hid (qT n= [129,ofI n]):=by unfold Hid qT;rw [iF h1,iT h2]
   clear h1 h2 hn
   go_enter Tryz.func96,Tryz.ntmps96
   go_wp2_with fail
   go_ret
   rw [E.out]
   exact⟨_,rfl,Qp w [129,ofI n] _ (by simp) _ rfl,iA⟩
  ·have d2:decide ((n:Int)<=255)=false:=decide_eq_false (by omega)
   have E:Hid (qT n= [130,ofI ((n:Int) / 256),ofI n]):=by unfold Hid qT;rw [iF h1,iF h2]
   clear h1 h2 hn
   go_enter Tryz.func96,Tryz.ntmps96
   go_wp2_with fail
   go_ret
   rw [E.out]
   exact⟨_,rfl,Qp w [130,ofI ((n:Int) / 256),ofI n] _ (by simp) _ rfl,iA⟩
abbrev IntBox(w:World)(p:Nat)(c:Int):Prop:=w.heap[p]?=some (.cells #[.int .i64 c] 3 (0,0))
def QV(w:World)(p:Nat)(r c n:Int)(w':World):Prop:=(∃c',IntBox w' p c'/\(r=0->c'=c+n))/\w.grownBy w' (some p)
theorem BsS.form2{w:World}{S:Nat->Prop}{v:Value}{l:List UInt8}(h:BsS w S v l):∃A c,v=.slice A l.length c:=by
 exact m07
theorem NsAt.zero{w:World}{S:Nat->Prop}{L:Ns}{a:Option Addr}{b off:Nat}{X:Prop}(h:0<L.len->a=some ⟨b,off,none⟩/\X/\NsAt w S L b off):NsAt w S L b off:=by
 cases L with
 |nil=>trivial
 |cons t v k r=>exact(h (by simp [Ns.len])).2.2
theorem NsAt.grown{w w':World}{p:Nat}{L:Ns}{b off:Nat}(h:NsAt w (fun b=>b<w.heap.size/\b≠p) L b off)(hb:b≠p)(hl:b<w.heap.size)(hg:w.grownBy w' (some p)):NsAt w' (fun b=>b<w'.heap.size/\b≠p) L b off:=
 NsAt.keep (fun b hs hl=>⟨hg.block b hl (by intro e;injection e;exact hs.2 (by omega)),⟨iZ hl hg.size,hs.2⟩⟩) L b off ⟨hl,hb⟩ hl h
theorem NsS.grown{w w':World}{p:Nat}{L:Ns}{v:Value}(h:NsS w (fun b=>b<w.heap.size/\b≠p) v L)(hg:w.grownBy w' (some p)):NsS w' (fun b=>b<w'.heap.size/\b≠p) v L:=
 h.keep (fun b hs hl=>⟨hg.block b hl (by intro e;injection e;exact hs.2 (by omega)),⟨iZ hl hg.size,hs.2⟩⟩)
section
variable{w:World}{p:Nat}{c:Int}(h:IntBox w p c)
include w p c h
theorem IntBox.cell:w.cell? ⟨p,0,none⟩=some (.int .i64 c):=by rw [cell_of_row _ _ _ _ _ _ h]<;>rfl
theorem IntBox.lt:p<w.heap.size:=(iG h)
theorem IntBox.alloc(o:Obj):IntBox (w.alloc o) p c:=(Below.heap_alloc w o p h.lt).trans h
theorem IntBox.set(n:Int):IntBox (w.setCell ⟨p,0,none⟩ (.int .i64 n)) p n:=
 one_setCell h
end
theorem y6(t:Int)(v:List UInt8)(k r:Ns)(d:Nat)(h1:qX t=true)(h2:¬((jY t=false/\0<k.len)\/(jY t=true/\0<v.length))):(Ns.cons t v k r).chk d=if 8<d then 7 else if k.chk (d+1)=0 then r.chk d else k.chk (d+1):=by
 rw [Ns.chk,iF (by rw [h1];decide),iF h2]
theorem qF{w wr:World}{p:Nat}{cc:Int}(hg:w.grownBy wr (some p))(hb:IntBox wr p cc)(o:Obj):
 IntBox ((wr.setCell ⟨p,0,none⟩ (.int .i64 (cc+1))).alloc o) p (cc+1)/\w.grownBy ((wr.setCell ⟨p,0,none⟩ (.int .i64 (cc+1))).alloc o) (some p):=
 ⟨(hb.set _).alloc o,jT (jb hg (.inl rfl) _) o⟩
theorem xO{w wr:World}{p:Nat}{cc r c n:Int}(hg:w.grownBy wr (some p))(hb:IntBox wr p cc)(hr:r≠0)(o:Obj):QV w p r c n ((wr.setCell ⟨p,0,none⟩ (.int .i64 (cc+1))).alloc o):=
 ⟨⟨_,(qF hg hb o).1,fun h=>absurd h hr⟩,(qF hg hb o).2⟩
theorem Xu{wr:World}{p:Nat}{_t cc:Int}{ka:Option Addr}{kc:Nat}{k:Ns}(h6:k.len<=kc)(h7:kc<=maxLen)(h8:k.len<=2513169434843)(h9:0<k.len->∃b' off',ka=some ⟨b',off',none⟩/\(b'<wr.heap.size/\b'≠p)/\b'<wr.heap.size/\NsAt wr (fun b=>b<wr.heap.size/\b≠p) k b' off')(hb:IntBox wr p cc)(o:Obj):
 NsS ((wr.setCell ⟨p,0,none⟩ (.int .i64 (cc+1))).alloc o) (fun b=>b<((wr.setCell ⟨p,0,none⟩ (.int .i64 (cc+1))).alloc o).heap.size/\b≠p) (.slice ka k.len kc) k:=
 NsS.grown ⟨ka,kc,rfl,h6,h7,h8,h9⟩ (qF (World.grownBy.refl wr _) hb o).2
theorem NsAt.keep'{wr w2:World}{p:Nat}{cc:Int}{r:Ns}{b off:Nat}(h:NsAt wr (fun b=>b<wr.heap.size/\b≠p) r b off)(hbp:b≠p)(hbl:b<wr.heap.size)(hb:IntBox wr p cc)(o:Obj)(hg:((wr.setCell ⟨p,0,none⟩ (.int .i64 (cc+1))).alloc o).grownBy w2 (some p)):NsAt w2 (fun b=>b<w2.heap.size/\b≠p) r b off:=
 h.grown hbp hbl (kr (qF (World.grownBy.refl wr _) hb o).2 hg)
theorem Vg(n:Nat):∀(L:Ns) (v:Value) (d:Nat) (c:Int) (p:Nat) (w:World),L.all<=n->NsS w (fun b=>b<w.heap.size/\b≠p) v L->d<=9->0<=c->c+L.all<=1000000000000->IntBox w p c->
 Calls Tryz.prog 110 #[v,.int .i64 d,.pointer (some ⟨p,0,none⟩)] w fun e w'=>e=.returned (.int .i64 (L.chk d))/\QV w p (L.chk d) c L.all w':=by
 induction n with
 |zero=>
  intro L v d c p w hn hv hd hc0 hc1 hp
  cases L with
  |cons t v k r=>simp only [Ns.all]at hn;omega
  |nil=>
   obtain⟨a,cap,rfl,hlc,hcap,hlen,hcells⟩:=hv
   clear hcells
   simp only [Ns.len]at*
   have Hp:=iH hp;clear hp
   go_enter Tryz.func110,Tryz.ntmps110
   go_wp2_with fail
   refine wp_loop_rounds 1 ?_
   rw [rounds_succ]
   go_wp2
   go_ret
   exact⟨rfl,⟨_,Hp.out,fun _=>by simp [Ns.all]⟩,World.grownBy.refl w _⟩
 |succ n ih=>
  intro L v d c p w hn hv hd hc0 hc1 hp
  obtain⟨a,cap,rfl,hlc,hcap,hlen,hcells⟩:=hv
  have hcap':cap<=9223372036854775807:=hcap
  obtain⟨b,off,hb⟩:∃b off,Hid (0<L.len->a=some ⟨b,off,none⟩/\(b<w.heap.size/\b≠p)/\NsAt w (fun b=>b<w.heap.size/\b≠p) L b off):=by
   exact mU
  clear hcells hcap
  have Hp:=iH hp;clear hp
  go_enter Tryz.func110,Tryz.ntmps110
  go_wp2_with fail
  go_loopg [13] L.len (fun m i wr=>∃(R:Ns) (j:Nat) (cc:Int),R.len=m/\j+R.len=L.len/\i=.int .i64 j/\Hid (R.chk d=L.chk d)/\Hid (cc+R.all=c+L.all)/\0<=cc/\R.all<=n+1/\
   NsAt wr (fun b=>b<wr.heap.size/\b≠p) R b (off+j*3)/\IntBox wr p cc/\w.grownBy wr (some p))
  case atStart=>
   exact⟨L,0,c,rfl,by omega,rfl,rfl,rfl,hc0,hn,by rw [Nat.zero_mul,Nat.add_zero];exact NsAt.zero hb.out,Hp.out,World.grownBy.refl w _⟩
  case round=>
   obtain⟨R,j,cc,rfl,hj,rfl,hchk,hcc,hcc0,hRn,hat,hpb,hg⟩:=hrel
   cases R with
   |nil=>
    simp only [Ns.len,Nat.add_zero]at hj
    subst hj
    go_wp2_with fail
    go_ret
    have e:L.chk d=0:=hchk.out.symm
    refine⟨by rw [e]<;>rfl,⟨_,hpb,fun _=> ?_⟩,hg⟩
    have:=hcc.out
    simp only [Ns.all]at this
    omega
   |cons t v k r=>
    obtain⟨h1,h2,⟨x,h3,h4⟩,⟨ka,kc,h5,h6,h7,h8x,h9⟩,h10⟩:=hat
    simp only [Ns.len]at hj
    simp only [Ns.all]at hRn
    have hcc':=hcc.out
    simp only [Ns.all]at hcc'
    have hlt:(j:Int)<L.len:=by omega
    obtain⟨rfl,⟨hbl,hbp⟩,_⟩:=hb.out (by omega)
    have hbl':b<wr.heap.size:=iZ hbl hg.size
    have hpl:=hpb.lt
    have hpc:=hpb.cell
    have hpf:wr.frozen? ⟨p,0,none⟩=false:=free_of_one hpb
    have Hpb:=iH hpb;clear hpb
    obtain⟨xa,xc,rfl⟩:=h4.form2
    have H4:=iH h4;have H9:=iH h9;have H10:=iH h10;have Hg:=iH hg
    clear h4 h9 h10 hg
    have Hv:=fun w=>iH (Ks t h2 w)
    have Hc:=fun w=>iH (yb t h2 w)
    cases et:qX t with
    |false=>
     rw [et]at Hv
     have E:Hid (L.chk d=4):=by rw [<-hchk.out,Ns.chk,iT et]<;>rfl
     clear et
     go_wp2_with(first|(go_at_call 134;refine(Hv _).out.mono ?_;rintro e w' ⟨rfl,rfl⟩)|(go_at_call 133;refine(Hc _).out.mono ?_;rintro e w' ⟨rfl,rfl⟩))
     go_ret
     exact⟨by rw [E.out]<;>rfl,by rw [E.out];exact xO (r:=4) Hg.out Hpb.out (by decide) _⟩
    |true=>
     rw [et]at Hv
     cases ec:jY t with
     |false=>
      rw [ec]at Hc
      by_cases hk:0<k.len
      ·have E:Hid (L.chk d=1):=by rw [<-hchk.out,Ns.chk,iF (by rw [et];decide),iT (.inl ⟨ec,hk⟩)]<;>rfl
       exact m1i
      ·have B:=y6 t v k r d et (by rw [ec];simp;omega)
       exact m0e
     |true=>
      rw [ec]at Hc
      by_cases hk:0<v.length
      ·have E:Hid (L.chk d=1):=by rw [<-hchk.out,Ns.chk,iF (by rw [et];decide),iT (.inr ⟨ec,hk⟩)]<;>rfl
       exact m1i
      ·have B:=y6 t v k r d et (by rw [ec];simp;exact List.eq_nil_of_length_eq_zero (by omega))
       exact m0e
end Go.Proofs.YtadndhgebgjlaaaGreat
