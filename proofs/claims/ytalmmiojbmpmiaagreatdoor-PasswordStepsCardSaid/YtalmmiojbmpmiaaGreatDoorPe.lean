/- Layer 2: lists of objects as trees, and what it is that a slice of nodes reads as one; Layer 2, plain: which numbers are tags, and of constructed objects; La... -/
import Derived.Test.YtalmmiojbmpmiaaGreatDoorPd
set_option linter.all false
set_option maxHeartbeats 400000
namespace Go.Proofs.YtalmmiojbmpmiaaGreatDoor
open Go.RowKit
inductive Ns where
 |nil
 |cons (tag:Int) (val:List UInt8) (kids rest:Ns)
def Ns.len:Ns->Nat
 |.nil=>0
 |.cons _ _ _ r=>r.len+1
def Ns.app:Ns->Ns->Ns
 |.nil,m=>m
 |.cons t v k r,m=>.cons t v k (r.app m)
theorem Ns.len_app(l m:Ns):(l.app m).len=l.len+m.len:=by
 induction l with
 |nil=>simp [Ns.app,Ns.len]
 |cons t v k r _ ih=>simp [Ns.app,Ns.len,ih];omega
def zI(t:Int):Prop:= -9223372036854775808<=t/\t<=9223372036854775807
def NsAt(w:World)(S:Nat->Prop):Ns->Nat->Nat->Prop
 |.nil,_,_=>True
 |.cons t v kids rest,b,off=>
  w.cell? ⟨b,off,none⟩=some (.int .i64 t)/\zI t/\
  (∃x,w.cell? ⟨b,off+1,none⟩=some x/\BsS w S x v)/\
  (∃a c,w.cell? ⟨b,off+2,none⟩=some (.slice a kids.len c)/\kids.len<=c/\c<=maxLen/\kids.len<=2513169434843/\
    (0<kids.len->∃b' off',a=some ⟨b',off',none⟩/\S b'/\b'<w.heap.size/\NsAt w S kids b' off'))/\
  NsAt w S rest b (off+3)
def NsS(w:World)(S:Nat->Prop)(v:Value)(l:Ns):Prop:=
 ∃a c,v=.slice a l.len c/\l.len<=c/\c<=maxLen/\l.len<=2513169434843/\(0<l.len->∃b off,a=some ⟨b,off,none⟩/\S b/\b<w.heap.size/\NsAt w S l b off)
theorem yt{w w':World}{b:Nat}(e:w'.heap[b]?=w.heap[b]?)(h:b<w.heap.size):b<w'.heap.size:=by
 rcases Nat.lt_or_ge b w'.heap.size with h'|h'
 ·exact h'
 ·rw [Array.getElem?_eq_none h',Array.getElem?_eq_getElem h]at e;cases e
theorem NsAt.keep{w w':World}{S S':Nat->Prop}(hk:∀b,S b->b<w.heap.size->w'.heap[b]?=w.heap[b]?/\S' b):∀(l:Ns) (b off:Nat),S b->b<w.heap.size->NsAt w S l b off->NsAt w' S' l b off:=by
 intro l
 induction l with
 |nil=>intros;trivial
 |cons t v kids rest ihk ihr=>
  intro b off hb hl ⟨h1,h2,⟨x,h3,h4⟩,⟨a,c,h5,h6,h7,h8,h9⟩,h10⟩
  have hc:∀o,w'.cell? ⟨b,o,none⟩=w.cell? ⟨b,o,none⟩:=fun o=>by simp [World.cell?,(hk b hb hl).1]
  refine⟨(hc _).trans h1,h2,⟨x,(hc _).trans h3,h4.keep hk⟩,⟨a,c,(hc _).trans h5,h6,h7,h8,fun h0=> ?_⟩,ihr b (off+3) hb hl h10⟩
  obtain⟨b',off',e,s',l',r'⟩:=h9 h0
  exact⟨b',off',e,(hk b' s' l').2,yt (hk b' s' l').1 l',ihk b' off' s' l' r'⟩
theorem NsS.keep{w w':World}{S S':Nat->Prop}{v:Value}{l:Ns}(h:NsS w S v l)(hk:∀b,S b->b<w.heap.size->w'.heap[b]?=w.heap[b]?/\S' b):NsS w' S' v l:=by
 obtain⟨a,c,e,h1,h2,h3,h4⟩:=h
 refine⟨a,c,e,h1,h2,h3,fun h0=> ?_⟩
 obtain⟨b,off,ea,hb,hl,hr⟩:=h4 h0
 exact⟨b,off,ea,(hk b hb hl).2,yt (hk b hb hl).1 hl,NsAt.keep hk l b off hb hl hr⟩
def xu(t:Int):Bool:=decide ((1<=t/\t<=255/\¬t % 32=31)\/(256<=t/\t<=65535/\t / 256 % 32=31/\1<=t % 256/\t % 256<=127))
def kr(t:Int):Bool:=xu t&&decide ((if 255<t then t / 256 else t) / 32 % 2=1)
def qj(l:List UInt8):Except Int (Int×Nat):=
 if l.length=0 then .error 6
 else if bv (gb l 0) % 32=31 then
  if l.length<2 then .error 6
  else if xu (256*bv (gb l 0)+bv (gb l 1))=true then .ok (256*bv (gb l 0)+bv (gb l 1),2)else .error 4
 else if xu (bv (gb l 0))=true then .ok (bv (gb l 0),1)else .error 4
def beV(l:List UInt8):Nat->Int
 |0=>0
 |k+1=>256*beV l k+bv (gb l (k+1))
def jz(l:List UInt8)(opn strict:Bool):Except Int (Int×Nat):=
 if l.length=0 then .error 6
 else if bv (gb l 0)<128 then .ok (bv (gb l 0),1)
 else if 132<bv (gb l 0)then .error 5
 else if bv (gb l 0)=128 then(if opn=true then .ok (-1,1)else .error 5)
 else if l.length<1+((gb l 0).toNat - 128)then .error 6
 else if strict=true/\(beV l ((gb l 0).toNat - 128)<128\/(1<(gb l 0).toNat - 128/\gb l 1=0))then .error 5
 else .ok (beV l ((gb l 0).toNat - 128),1+((gb l 0).toNat - 128))
structure j4i where
 tag:Int
 val:List UInt8
 kids:Ns
 used:Nat
 count:Nat
structure Lst where
 list:Ns
 used:Nat
 count:Nat
def yX(strict:Bool)(L:List UInt8->Nat->Nat->Bool->Except Int Lst)(l:List UInt8)(d c:Nat):Except Int j4i:=
 match qj l with
 |.error e=>.error e
 |.ok (t,k)=>
  match jz (l.drop k) (kr t&& !strict) strict with
  |.error e=>.error e
  |.ok (n,j)=>
   if 8<d then .error 7
   else if 256<c+1 then .error 2
   else if((l.drop (k+j)).length:Int)<n then .error 6
   else if n<0 then
    match L (l.drop (k+j)) (d+1) (c+1) true with
    |.error e=>.error e
    |.ok r=>.ok ⟨t,[],r.list,k+j+r.used,r.count⟩
   else if kr t=true then
    match L ((l.drop (k+j)).take n.toNat) (d+1) (c+1) false with
    |.error e=>.error e
    |.ok r=>.ok ⟨t,[],r.list,k+j+n.toNat,r.count⟩
   else .ok ⟨t,(l.drop (k+j)).take n.toNat,.nil,k+j+n.toNat,c+1⟩
def kh(l:List UInt8)(opn:Bool):Option (Except Int Nat):=
 if opn=true then
  if l.length=0\/(gb l 0=0/\l.length=1)then some (.error 6)
  else if gb l 0=0/\gb l 1=0 then some (.ok 2)else none
 else if l.length=0 then some (.ok 0)else none
def jf(strict:Bool):Nat->List UInt8->Nat->Nat->Bool->Except Int Lst
 |n,l,d,c,opn=>
  match kh l opn with
  |some (.error e)=>.error e
  |some (.ok u)=>.ok ⟨.nil,u,c⟩
  |none=>
   match n with
   |0=>.error 6
   |n+1=>
    match yX strict (jf strict n) l d c with
    |.error e=>.error e
    |.ok o=>
     match jf strict n (l.drop o.used) d o.count opn with
     |.error e=>.error e
     |.ok r=>.ok ⟨.cons o.tag o.val o.kids r.list,o.used+r.used,r.count⟩
abbrev kP(strict:Bool)(n:Nat):=yX strict (jf strict n)
def kl(l:List UInt8)(strict:Bool):Except Int Ns:=
 if 4096<l.length then .error 2
 else match jf strict l.length l 1 0 false with
  |.error e=>.error e
  |.ok r=>.ok r.list
def leN:Nat->Nat->List UInt8
 |0,_=>[]
 |f+1,n=>if n=0 then []else ofI n :: leN f (n / 256)
def qL(n:Nat):List UInt8:=if n<128 then [ofI n]else ofI (128+(leN 8 n).length) :: (leN 8 n).reverse
def ki(t:Int):List UInt8:=if 255<t then [ofI (t / 256),ofI t]else [ofI t]
def Ns.enc:Ns->List UInt8
 |.nil=>[]
 |.cons t v k r=>ki t++qL (if kr t then k.enc else v).length++(if kr t then k.enc else v)++r.enc
def Ns.all:Ns->Nat
 |.nil=>0
 |.cons _ _ k r=>1+k.all+r.all
def Ns.chk:Ns->Nat->Int
 |.nil,_=>0
 |.cons t v k r,d=>
  if xu t=false then 4
  else if(kr t=false/\0<k.len)\/(kr t=true/\0<v.length)then 1
  else if 8<d then 7
  else if k.chk (d+1)=0 then r.chk d else k.chk (d+1)
def yi(l:Ns):Except Int (List UInt8):=
 if l.chk 1≠0 then .error (l.chk 1)
 else if 256<l.all then .error 2
 else if 4096<l.enc.length then .error 2
 else .ok l.enc
theorem Qt(t:Int)(h0:0<=t)(h1:t<=9223372036854775807)(w:World):Calls Tryz.prog 193 #[.int .i64 t] w fun e w'=>e=.returned (.bool (t % 32==31))/\w'=w:=by
 have hb:bits .and .i64 t 31=t % 32:=bits_mask .i64 63 (by decide) (fun n a b=>IntWalk.i64_in n ⟨by omega,by omega⟩) 5 (by decide) t h0 (by omega)
 go_enter Tryz.func193,Tryz.ntmps193
 go_wp2
 go_ret
 exact⟨rfl,rfl⟩
theorem QV{t:Int}{p:Prop} [Decidable p](h:((1<=t/\t<=255/\¬t % 32=31)\/(256<=t/\t<=65535/\t / 256 % 32=31/\1<=t % 256/\t % 256<=127))↔p):xu t=decide p:=by unfold xu;exact decide_eq_decide.2 h
theorem Ka(t:Int)(ht:zI t)(w:World):Calls Tryz.prog 180 #[.int .i64 t] w fun e w'=>e=.returned (.bool (xu t))/\w'=w:=by
 obtain⟨hlo,hhi⟩:=ht
 by_cases h1:t<256
 ·have d1:decide (t<256)=true:=decide_eq_true h1
  by_cases h2:0<t
  ·have d2:decide (t>0)=true:=decide_eq_true h2
   have e:xu t= !(t % 32==31):=by
    rw [QV (p:=¬t % 32=31) (by omega)]
    by_cases h:t % 32=31<;>simp [h]
   have E:=iH e
   have L:=iH (Qt t (by omega) (by omega) w)
   clear hlo hhi h1 h2 e
   go_enter Tryz.func180,Tryz.ntmps180
   go_wp2_with(go_at_call 193;refine L.out.mono ?_;rintro e w' ⟨rfl,rfl⟩)
   go_ret
   exact⟨by rw [E.out]<;>rfl,rfl⟩
  ·have d2:decide (t>0)=false:=decide_eq_false h2
   have e:xu t=false:=decide_eq_false (by omega)
   have E:=iH e
   clear hlo hhi h1 h2 e
   go_enter Tryz.func180,Tryz.ntmps180
   go_wp2_with fail
   go_ret
   exact⟨by rw [E.out]<;>rfl,rfl⟩
 ·have d1:decide (t<256)=false:=decide_eq_false h1
  have m1:bits .and .i64 t 255=t % 256:=bits_mask .i64 63 (by decide) (fun n a b=>IntWalk.i64_in n ⟨by omega,by omega⟩) 8 (by decide) t (by omega) (by omega)
  have L:=iH (Qt (t / 256) (by omega) (by omega) w)
  by_cases h2:t / 256<256
  ·have d2:decide (t / 256<256)=true:=decide_eq_true h2
   have e:xu t=((t / 256 % 32==31)&&decide (t % 256>=1)&&decide (t % 256<=127)):=by
    rw [QV (p:=t / 256 % 32=31/\t % 256>=1/\t % 256<=127) (by omega)]
    by_cases a:t / 256 % 32=31<;>by_cases b:t % 256>=1<;>by_cases c:t % 256<=127<;>simp [a,b,c]
   obtain⟨a,ha⟩:∃a,(t / 256 % 32==31)=a:=⟨_,rfl⟩
   obtain⟨b,hb⟩:∃b,decide (t % 256>=1)=b:=⟨_,rfl⟩
   obtain⟨c,hc⟩:∃c,decide (t % 256<=127)=c:=⟨_,rfl⟩
   rw [ha,hb,hc]at e
   rw [ha]at L
   have E:=iH e
   clear hlo hhi h1 h2 e ha
   cases a<;>cases b<;>cases c
   all_goals
    go_enter Tryz.func180,Tryz.ntmps180
    go_wp2_with(go_at_call 193;refine L.out.mono ?_;rintro e w' ⟨rfl,rfl⟩)
    go_ret
    exact⟨by rw [E.out]<;>rfl,rfl⟩
  ·have d2:decide (t / 256<256)=false:=decide_eq_false h2
   have e:xu t=false:=decide_eq_false (by omega)
   have E:=iH e
   clear hlo hhi h1 h2 e
   go_enter Tryz.func180,Tryz.ntmps180
   go_wp2_with fail
   go_ret
   exact⟨by rw [E.out]<;>rfl,rfl⟩
theorem Yu{t:Int}(h0:0<=t)(h1:t<256):(bits .and .i64 t 32 != 0)=decide (t / 32 % 2=1):=by
 obtain⟨n,rfl⟩:=Int.eq_ofNat_of_zero_le h0
 have h:(List.range 256).all (fun n=>(bits .and .i64 (n:Int) 32 != 0)==decide ((n:Int) / 32 % 2=1))=true:=by decide+kernel
 have:=List.all_eq_true.1 h n (List.mem_range.2 (by omega))
 simpa using this
theorem yD{t:Int}(h:xu t=true):1<=t/\t<=65535:=by
 have:=of_decide_eq_true h
 omega
section
variable(t:Int)(ht:zI t)(w:World)
include t ht w
theorem zP:Calls Tryz.prog 179 #[.int .i64 t] w fun e w'=>e=.returned (.bool (kr t))/\w'=w:=by
 have V:=Ka t ht w
 cases h:xu t with
 |false=>
  have E:Hid (kr t=false):=by unfold Hid kr;rw [h]<;>rfl
  rw [h]at V
  have V:=iH V
  clear h ht
  go_enter Tryz.func179,Tryz.ntmps179
  go_wp2_with(go_at_call 180;refine V.out.mono ?_;rintro e w' ⟨rfl,rfl⟩)
  go_ret
  exact⟨by rw [E.out]<;>rfl,rfl⟩
 |true=>
  obtain⟨r1,r2⟩:=yD h
  rw [h]at V
  have V:=iH V
  by_cases hb:255<t
  ·have d:decide (t>255)=true:=decide_eq_true hb
   have E:Hid ((bits .and .i64 (t / 256) 32 != 0)=kr t):=by
    unfold Hid kr
    rw [h,iT hb,Yu (by omega) (by omega)]<;>rfl
   clear h ht hb r1 r2
   go_enter Tryz.func179,Tryz.ntmps179
   go_wp2_with(go_at_call 180;refine V.out.mono ?_;rintro e w' ⟨rfl,rfl⟩)
   go_ret
   exact⟨by rw [<-E.out]<;>rfl,rfl⟩
  ·have d:decide (t>255)=false:=decide_eq_false hb
   have E:Hid ((bits .and .i64 t 32 != 0)=kr t):=by
    unfold Hid kr
    rw [h,iF hb,Yu (by omega) (by omega)]<;>rfl
   clear h ht hb r1 r2
   go_enter Tryz.func179,Tryz.ntmps179
   go_wp2_with(go_at_call 180;refine V.out.mono ?_;rintro e w' ⟨rfl,rfl⟩)
   go_ret
   exact⟨by rw [<-E.out]<;>rfl,rfl⟩
theorem yC:Calls Tryz.prog 169 #[.int .i64 t] w fun e w'=>e=.returned (.bool (xu t))/\w'=w:=by
 obtain⟨hlo,hhi⟩:=ht
 by_cases h1:t>=1
 ·have d1:decide (t>=1)=true:=decide_eq_true h1
  have q1:Int.tmod t 32=t % 32:=Int.tmod_eq_emod_of_nonneg (by omega)
  have q2:Int.tmod t 256=t % 256:=Int.tmod_eq_emod_of_nonneg (by omega)
  have q3:Int.tdiv t 256=t / 256:=Int.tdiv_eq_ediv_of_nonneg (by omega)
  have q4:Int.tmod (t / 256) 32=t / 256 % 32:=Int.tmod_eq_emod_of_nonneg (by omega)
  by_cases h2:t<=255
  ·have d2:decide (t<=255)=true:=decide_eq_true h2
   have e:xu t=(t % 32 != 31):=by
    rw [QV (p:=¬t % 32=31) (by omega)]
    by_cases h:t % 32=31<;>simp [h]
   have E:=iH e
   clear hlo hhi h1 h2 e
   go_enter Tryz.func169,Tryz.ntmps169
   go_wp2_with fail
   go_ret
   exact⟨by rw [E.out]<;>rfl,rfl⟩
  ·have d2:decide (t<=255)=false:=decide_eq_false h2
   have d3:decide (t>=256)=true:=decide_eq_true (by omega)
   have W1:=iH (IntWalk.wrap64_in (t / 256) (by omega))
   by_cases h3:t<=65535
   ·have d4:decide (t<=65535)=true:=decide_eq_true h3
    have e:xu t=((t / 256 % 32==31)&&decide (t % 256>=1)&&decide (t % 256<=127)):=by
     rw [QV (p:=t / 256 % 32=31/\t % 256>=1/\t % 256<=127) (by omega)]
     by_cases a:t / 256 % 32=31<;>by_cases b:t % 256>=1<;>by_cases c:t % 256<=127<;>simp [a,b,c]
    obtain⟨a,ha⟩:∃a,(t / 256 % 32==31)=a:=⟨_,rfl⟩
    obtain⟨b,hb⟩:∃b,decide (t % 256>=1)=b:=⟨_,rfl⟩
    obtain⟨c,hc⟩:∃c,decide (t % 256<=127)=c:=⟨_,rfl⟩
    rw [ha,hb,hc]at e
    have E:=iH e
    clear hlo hhi h1 h2 h3 e
    have w1:=W1.out
    cases a<;>cases b<;>cases c
    all_goals
     go_enter Tryz.func169,Tryz.ntmps169
     go_wp2_with fail
     go_ret
     exact⟨by rw [E.out]<;>rfl,rfl⟩
   ·have d4:decide (t<=65535)=false:=decide_eq_false h3
    have e:xu t=false:=decide_eq_false (by omega)
    have E:=iH e
    clear hlo hhi h1 h2 h3 e
    go_enter Tryz.func169,Tryz.ntmps169
    go_wp2_with fail
    go_ret
    exact⟨by rw [E.out]<;>rfl,rfl⟩
 ·have d1:decide (t>=1)=false:=decide_eq_false h1
  have d2:decide (t>=256)=false:=decide_eq_false (by omega)
  have e:xu t=false:=decide_eq_false (by omega)
  have E:=iH e
  clear hlo hhi h1 e
  go_enter Tryz.func169,Tryz.ntmps169
  go_wp2_with fail
  go_ret
  exact⟨by rw [E.out]<;>rfl,rfl⟩
theorem y4:Calls Tryz.prog 143 #[.int .i64 t] w fun e w'=>e=.returned (.bool (kr t))/\w'=w:=by
 have V:=yC t ht w
 cases h:xu t with
 |false=>
  have E:Hid (kr t=false):=by unfold Hid kr;rw [h]<;>rfl
  rw [h]at V
  have V:=iH V
  clear h ht
  go_enter Tryz.func143,Tryz.ntmps143
  go_wp2_with(go_at_call 169;refine V.out.mono ?_;rintro e w' ⟨rfl,rfl⟩)
  go_ret
  exact⟨by rw [E.out]<;>rfl,rfl⟩
 |true=>
  obtain⟨r1,r2⟩:=yD h
  rw [h]at V
  have V:=iH V
  have q1:Int.tdiv t 256=t / 256:=Int.tdiv_eq_ediv_of_nonneg (by omega)
  have q2:Int.tdiv t 32=t / 32:=Int.tdiv_eq_ediv_of_nonneg (by omega)
  have q3:Int.tdiv (t / 256) 32=t / 256 / 32:=Int.tdiv_eq_ediv_of_nonneg (by omega)
  have q4:Int.tmod (t / 32) 2=t / 32 % 2:=Int.tmod_eq_emod_of_nonneg (by omega)
  have q5:Int.tmod (t / 256 / 32) 2=t / 256 / 32 % 2:=Int.tmod_eq_emod_of_nonneg (by omega)
  by_cases hb:255<t
  ·have d:decide (t>255)=true:=decide_eq_true hb
   have W1:=iH (IntWalk.wrap64_in (t / 256) (by omega))
   have W2:=iH (IntWalk.wrap64_in (t / 256 / 32) (by omega))
   have E:Hid ((t / 256 / 32 % 2==1)=kr t):=by
    unfold Hid kr
    rw [h,iT hb]
    by_cases hc:t / 256 / 32 % 2=1<;>simp [hc]
   clear h ht hb r1 r2
   have w1:=W1.out;have w2:=W2.out
   go_enter Tryz.func143,Tryz.ntmps143
   go_wp2_with(go_at_call 169;refine V.out.mono ?_;rintro e w' ⟨rfl,rfl⟩)
   go_ret
   exact⟨by rw [<-E.out]<;>rfl,rfl⟩
  ·have d:decide (t>255)=false:=decide_eq_false hb
   have W2:=iH (IntWalk.wrap64_in (t / 32) (by omega))
   have E:Hid ((t / 32 % 2==1)=kr t):=by
    unfold Hid kr
    rw [h,iF hb]
    by_cases hc:t / 32 % 2=1<;>simp [hc]
   clear h ht hb r1 r2
   have w2:=W2.out
   go_enter Tryz.func143,Tryz.ntmps143
   go_wp2_with(go_at_call 169;refine V.out.mono ?_;rintro e w' ⟨rfl,rfl⟩)
   go_ret
   exact⟨by rw [<-E.out]<;>rfl,rfl⟩
end
end Go.Proofs.YtalmmiojbmpmiaaGreatDoor
