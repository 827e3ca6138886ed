/- Layer 2: lists of objects as trees, and what it is that a slice of nodes reads as one; Layer 2, plain: which numbers are tags, and of constructed objects; La... -/
import Derived.BigQuiet
import Derived.Deep.Cut
import Derived.Test.YtadndhgebgjlaaaGreatPd
set_option linter.all false
set_option maxHeartbeats 1000000
namespace Go.Proofs.YtadndhgebgjlaaaGreat
open Go.RowKit Go.Deep
inductive Ns where
 |nil
 |cons (tag:Int) (val:List UInt8) (kids rest:Ns)
def Ns.len:Ns->Nat
 |.nil=>0
 |.cons _ _ _ r=>r.len+1
def Ns.app:Ns->Ns->Ns
 |.nil,m=>m
 |.cons t v k r,m=>.cons t v k (r.app m)
theorem Ns.len_app(l m:Ns):(l.app m).len=l.len+m.len:=by
 induction l with
 |nil=>simp [Ns.app,Ns.len]
 |cons t v k r _ ih=>simp [Ns.app,Ns.len,ih];omega
def kS(t:Int):Prop:= -9223372036854775808<=t/\t<=9223372036854775807
def NsAt(w:World)(S:Nat->Prop):Ns->Nat->Nat->Prop
 |.nil,_,_=>True
 |.cons t v kids rest,b,off=>
  w.cell? ⟨b,off,none⟩=some (.int .i64 t)/\kS t/\
  (∃x,w.cell? ⟨b,off+1,none⟩=some x/\BsS w S x v)/\
  (∃a c,w.cell? ⟨b,off+2,none⟩=some (.slice a kids.len c)/\kids.len<=c/\c<=maxLen/\kids.len<=2513169434843/\
    (0<kids.len->∃b' off',a=some ⟨b',off',none⟩/\S b'/\b'<w.heap.size/\NsAt w S kids b' off'))/\
  NsAt w S rest b (off+3)
def NsS(w:World)(S:Nat->Prop)(v:Value)(l:Ns):Prop:=
 ∃a c,v=.slice a l.len c/\l.len<=c/\c<=maxLen/\l.len<=2513169434843/\(0<l.len->∃b off,a=some ⟨b,off,none⟩/\S b/\b<w.heap.size/\NsAt w S l b off)
theorem yI{w w':World}{b:Nat}(e:w'.heap[b]?=w.heap[b]?) (h:b<w.heap.size):b<w'.heap.size:=by
 rcases Nat.lt_or_ge b w'.heap.size with h'|h'
 ·exact h'
 ·rw [Array.getElem?_eq_none h',Array.getElem?_eq_getElem h]at e;cases e
theorem NsAt.keep{w w':World}{S S':Nat->Prop}(hk:∀b,S b->b<w.heap.size->w'.heap[b]?=w.heap[b]?/\S' b):∀(l:Ns) (b off:Nat),S b->b<w.heap.size->NsAt w S l b off->NsAt w' S' l b off:=by
 intro l
 induction l with
 |nil=>intros;trivial
 |cons t v kids rest ihk ihr=>
  intro b off hb hl ⟨h1,h2,⟨x,h3,h4⟩,⟨a,c,h5,h6,h7,h8,h9⟩,h10⟩
  have hc:∀o,w'.cell? ⟨b,o,none⟩=w.cell? ⟨b,o,none⟩:=fun o=>by simp [World.cell?,(hk b hb hl).1]
  refine⟨(hc _).trans h1,h2,⟨x,(hc _).trans h3,h4.keep hk⟩,⟨a,c,(hc _).trans h5,h6,h7,h8,fun h0=> ?_⟩,ihr b (off+3) hb hl h10⟩
  obtain⟨b',off',e,s',l',r'⟩:=h9 h0
  exact⟨b',off',e,(hk b' s' l').2,yI (hk b' s' l').1 l',ihk b' off' s' l' r'⟩
theorem NsS.keep{w w':World}{S S':Nat->Prop}{v:Value}{l:Ns}(h:NsS w S v l)(hk:∀b,S b->b<w.heap.size->w'.heap[b]?=w.heap[b]?/\S' b):NsS w' S' v l:=by
 obtain⟨a,c,e,h1,h2,h3,h4⟩:=h
 refine⟨a,c,e,h1,h2,h3,fun h0=> ?_⟩
 obtain⟨b,off,ea,hb,hl,hr⟩:=h4 h0
 exact⟨b,off,ea,(hk b hb hl).2,yI (hk b hb hl).1 hl,NsAt.keep hk l b off hb hl hr⟩
def qP(t:Int):Bool:=decide ((1<=t/\t<=255/\¬t % 32=31)\/(256<=t/\t<=65535/\t / 256 % 32=31/\1<=t % 256/\t % 256<=127))
def jY(t:Int):Bool:=qP t&&decide ((if 255<t then t / 256 else t) / 32 % 2=1)
def q9(l:List UInt8):Except Int (Int×Nat):=
 if l.length=0 then .error 6
 else if bv (gb l 0) % 32=31 then
  if l.length<2 then .error 6
  else if qP (256*bv (gb l 0)+bv (gb l 1))=true then .ok (256*bv (gb l 0)+bv (gb l 1),2)else .error 4
 else if qP (bv (gb l 0))=true then .ok (bv (gb l 0),1)else .error 4
def beV(l:List UInt8):Nat->Int
 |0=>0
 |k+1=>256*beV l k+bv (gb l (k+1))
def jB(l:List UInt8)(opn strict:Bool):Except Int (Int×Nat):=
 if l.length=0 then .error 6
 else if bv (gb l 0)<128 then .ok (bv (gb l 0),1)
 else if 132<bv (gb l 0)then .error 5
 else if bv (gb l 0)=128 then(if opn=true then .ok (-1,1)else .error 5)
 else if l.length<1+((gb l 0).toNat - 128)then .error 6
 else if strict=true/\(beV l ((gb l 0).toNat - 128)<128\/(1<(gb l 0).toNat - 128/\gb l 1=0))then .error 5
 else .ok (beV l ((gb l 0).toNat - 128),1+((gb l 0).toNat - 128))
structure j34 where
 tag:Int
 val:List UInt8
 kids:Ns
 used:Nat
 count:Nat
structure Lst where
 list:Ns
 used:Nat
 count:Nat
def Jc(strict:Bool)(L:List UInt8->Nat->Nat->Bool->Except Int Lst)(l:List UInt8)(d c:Nat):Except Int j34:=
 match q9 l with
 |.error e=>.error e
 |.ok (t,k)=>
  match jB (l.drop k) (jY t&& !strict) strict with
  |.error e=>.error e
  |.ok (n,j)=>
   if 8<d then .error 7
   else if 256<c+1 then .error 2
   else if((l.drop (k+j)).length:Int)<n then .error 6
   else if n<0 then
    match L (l.drop (k+j)) (d+1) (c+1) true with
    |.error e=>.error e
    |.ok r=>.ok ⟨t,[],r.list,k+j+r.used,r.count⟩
   else if jY t=true then
    match L ((l.drop (k+j)).take n.toNat) (d+1) (c+1) false with
    |.error e=>.error e
    |.ok r=>.ok ⟨t,[],r.list,k+j+n.toNat,r.count⟩
   else .ok ⟨t,(l.drop (k+j)).take n.toNat,.nil,k+j+n.toNat,c+1⟩
def ke(l:List UInt8)(opn:Bool):Option (Except Int Nat):=
 if opn=true then
  if l.length=0\/(gb l 0=0/\l.length=1)then some (.error 6)
  else if gb l 0=0/\gb l 1=0 then some (.ok 2)else none
 else if l.length=0 then some (.ok 0)else none
def jh(strict:Bool):Nat->List UInt8->Nat->Nat->Bool->Except Int Lst
 |n,l,d,c,opn=>
  match ke l opn with
  |some (.error e)=>.error e
  |some (.ok u)=>.ok ⟨.nil,u,c⟩
  |none=>
   match n with
   |0=>.error 6
   |n+1=>
    match Jc strict (jh strict n) l d c with
    |.error e=>.error e
    |.ok o=>
     match jh strict n (l.drop o.used) d o.count opn with
     |.error e=>.error e
     |.ok r=>.ok ⟨.cons o.tag o.val o.kids r.list,o.used+r.used,r.count⟩
abbrev kK(strict:Bool)(n:Nat):=Jc strict (jh strict n)
def jO(l:List UInt8)(strict:Bool):Except Int Ns:=
 if 4096<l.length then .error 2
 else match jh strict l.length l 1 0 false with
  |.error e=>.error e
  |.ok r=>.ok r.list
def leN:Nat->Nat->List UInt8
 |0,_=>[]
 |f+1,n=>if n=0 then []else ofI n :: leN f (n / 256)
def xk(n:Nat):List UInt8:=if n<128 then [ofI n]else ofI (128+(leN 8 n).length) :: (leN 8 n).reverse
def km(t:Int):List UInt8:=if 255<t then [ofI (t / 256),ofI t]else [ofI t]
def Ns.enc:Ns->List UInt8
 |.nil=>[]
 |.cons t v k r=>km t++xk (if jY t then k.enc else v).length++(if jY t then k.enc else v)++r.enc
def Ns.all:Ns->Nat
 |.nil=>0
 |.cons _ _ k r=>1+k.all+r.all
def Ns.chk:Ns->Nat->Int
 |.nil,_=>0
 |.cons t v k r,d=>
  if qP t=false then 4
  else if(jY t=false/\0<k.len)\/(jY t=true/\0<v.length)then 1
  else if 8<d then 7
  else if k.chk (d+1)=0 then r.chk d else k.chk (d+1)
def qx(l:Ns):Except Int (List UInt8):=
 if l.chk 1≠0 then .error (l.chk 1)
 else if 256<l.all then .error 2
 else if 4096<l.enc.length then .error 2
 else .ok l.enc
theorem Qb(t:Int)(h0:0<=t)(h1:t<=9223372036854775807)(w:World):Calls Tryz.prog 142 #[.int .i64 t] w fun e w'=>e=.returned (.bool (t % 32==31))/\w'=w:=by
 have hb:bits .and .i64 t 31=t % 32:=bits_mask .i64 63 (by decide) (fun n a b=>IntWalk.i64_in n ⟨by omega,by omega⟩) 5 (by decide) t h0 (by omega)
 go_enter Tryz.func142,Tryz.ntmps142
 go_wp2
 go_ret
 exact⟨rfl,rfl⟩
theorem Qy{t:Int}{p:Prop} [Decidable p](h:((1<=t/\t<=255/\¬t % 32=31)\/(256<=t/\t<=65535/\t / 256 % 32=31/\1<=t % 256/\t % 256<=127))↔p):qP t=decide p:=by unfold qP;exact decide_eq_decide.2 h
theorem Kf(t:Int)(ht:kS t)(w:World):Calls Tryz.prog 134 #[.int .i64 t] w fun e w'=>e=.returned (.bool (qP t))/\w'=w:=by
 obtain⟨hlo,hhi⟩:=ht
 by_cases h1:t<256
 ·have d1:decide (t<256)=true:=decide_eq_true h1
  by_cases h2:0<t
  ·have d2:decide (t>0)=true:=decide_eq_true h2
   have e:qP t= !(t % 32==31):=by
    rw [Qy (p:=¬t % 32=31) (by omega)]
    by_cases h:t % 32=31<;>simp [h]
   have E:=iH e
   have L:=iH (Qb t (by omega) (by omega) w)
   clear hlo hhi h1 h2 e
   go_enter Tryz.func134,Tryz.ntmps134
   go_wp2_with(go_at_call 142;refine L.out.mono ?_;rintro e w' ⟨rfl,rfl⟩)
   go_ret
   exact⟨by rw [E.out]<;>rfl,rfl⟩
  ·have d2:decide (t>0)=false:=decide_eq_false h2
   have e:qP t=false:=decide_eq_false (by omega)
   have E:=iH e
   clear hlo hhi h1 h2 e
   go_enter Tryz.func134,Tryz.ntmps134
   go_wp2_with fail
   go_ret
   exact⟨by rw [E.out]<;>rfl,rfl⟩
 ·have d1:decide (t<256)=false:=decide_eq_false h1
  have m1:bits .and .i64 t 255=t % 256:=bits_mask .i64 63 (by decide) (fun n a b=>IntWalk.i64_in n ⟨by omega,by omega⟩) 8 (by decide) t (by omega) (by omega)
  have L:=iH (Qb (t / 256) (by omega) (by omega) w)
  by_cases h2:t / 256<256
  ·have d2:decide (t / 256<256)=true:=decide_eq_true h2
   have e:qP t=((t / 256 % 32==31)&&decide (t % 256>=1)&&decide (t % 256<=127)):=by
    rw [Qy (p:=t / 256 % 32=31/\t % 256>=1/\t % 256<=127) (by omega)]
    by_cases a:t / 256 % 32=31<;>by_cases b:t % 256>=1<;>by_cases c:t % 256<=127<;>simp [a,b,c]
   obtain⟨a,ha⟩:∃a,(t / 256 % 32==31)=a:=⟨_,rfl⟩
   obtain⟨b,hb⟩:∃b,decide (t % 256>=1)=b:=⟨_,rfl⟩
   obtain⟨c,hc⟩:∃c,decide (t % 256<=127)=c:=⟨_,rfl⟩
   rw [ha,hb,hc]at e
   rw [ha]at L
   have E:=iH e
   clear hlo hhi h1 h2 e ha
   cases a<;>cases b<;>cases c
   all_goals
    go_enter Tryz.func134,Tryz.ntmps134
    go_wp2_with(go_at_call 142;refine L.out.mono ?_;rintro e w' ⟨rfl,rfl⟩)
    go_ret
    exact⟨by rw [E.out]<;>rfl,rfl⟩
  ·have d2:decide (t / 256<256)=false:=decide_eq_false h2
   have e:qP t=false:=decide_eq_false (by omega)
   have E:=iH e
   clear hlo hhi h1 h2 e
   go_enter Tryz.func134,Tryz.ntmps134
   go_wp2_with fail
   go_ret
   exact⟨by rw [E.out]<;>rfl,rfl⟩
theorem ZE{t:Int}(h0:0<=t)(h1:t<256):(bits .and .i64 t 32 != 0)=decide (t / 32 % 2=1):=by
 obtain⟨n,rfl⟩:=Int.eq_ofNat_of_zero_le h0
 have h:(List.range 256).all (fun n=>(bits .and .i64 (n:Int) 32 != 0)==decide ((n:Int) / 32 % 2=1))=true:=by decide+kernel
 have:=List.all_eq_true.1 h n (List.mem_range.2 (by omega))
 simpa using this
theorem yT{t:Int}(h:qP t=true):1<=t/\t<=65535:=by
 have:=of_decide_eq_true h
 omega
theorem zT(t:Int)(ht:kS t)(w:World):Calls Tryz.prog 133 #[.int .i64 t] w fun e w'=>e=.returned (.bool (jY t))/\w'=w:=by
 have V:=Kf t ht w
 cases h:qP t with
 |false=>
  have E:Hid (jY t=false):=by unfold Hid jY;rw [h]<;>rfl
  rw [h]at V
  have V:=iH V
  clear h ht
  go_enter Tryz.func133,Tryz.ntmps133
  go_wp2_with(go_at_call 134;refine V.out.mono ?_;rintro e w' ⟨rfl,rfl⟩)
  go_ret
  exact⟨by rw [E.out]<;>rfl,rfl⟩
 |true=>
  obtain⟨r1,r2⟩:=yT h
  rw [h]at V
  have V:=iH V
  by_cases hb:255<t
  ·have d:decide (t>255)=true:=decide_eq_true hb
   have E:Hid ((bits .and .i64 (t / 256) 32 != 0)=jY t):=by
    unfold Hid jY
    rw [h,iT hb,ZE (by omega) (by omega)]<;>rfl
   clear h ht hb r1 r2
   go_enter Tryz.func133,Tryz.ntmps133
   go_wp2_with(go_at_call 134;refine V.out.mono ?_;rintro e w' ⟨rfl,rfl⟩)
   go_ret
   exact⟨by rw [<-E.out]<;>rfl,rfl⟩
  ·have d:decide (t>255)=false:=decide_eq_false hb
   have E:Hid ((bits .and .i64 t 32 != 0)=jY t):=by
    unfold Hid jY
    rw [h,iF hb,ZE (by omega) (by omega)]<;>rfl
   clear h ht hb r1 r2
   go_enter Tryz.func133,Tryz.ntmps133
   go_wp2_with(go_at_call 134;refine V.out.mono ?_;rintro e w' ⟨rfl,rfl⟩)
   go_ret
   exact⟨by rw [<-E.out]<;>rfl,rfl⟩
theorem yQ(t:Int)(ht:kS t)(w:World):Calls Tryz.prog 94 #[.int .i64 t] w fun e w'=>e=.returned (.bool (qP t))/\w'=w:=by
 obtain⟨hlo,hhi⟩:=ht
 by_cases h1:t>=1
 ·have d1:decide (t>=1)=true:=decide_eq_true h1
  have q1:Int.tmod t 32=t % 32:=Int.tmod_eq_emod_of_nonneg (by omega)
  have q2:Int.tmod t 256=t % 256:=Int.tmod_eq_emod_of_nonneg (by omega)
  have q3:Int.tdiv t 256=t / 256:=Int.tdiv_eq_ediv_of_nonneg (by omega)
  have q4:Int.tmod (t / 256) 32=t / 256 % 32:=Int.tmod_eq_emod_of_nonneg (by omega)
  by_cases h2:t<=255
  ·have d2:decide (t<=255)=true:=decide_eq_true h2
   have e:qP t=(t % 32 != 31):=by
    rw [Qy (p:=¬t % 32=31) (by omega)]
    by_cases h:t % 32=31<;>simp [h]
   have E:=iH e
   clear hlo hhi h1 h2 e
   go_enter Tryz.func94,Tryz.ntmps94
   go_wp2_with fail
   go_ret
   exact⟨by rw [E.out]<;>rfl,rfl⟩
  ·have d2:decide (t<=255)=false:=decide_eq_false h2
   have d3:decide (t>=256)=true:=decide_eq_true (by omega)
   have W1:=iH (IntWalk.wrap64_in (t / 256) (by omega))
   by_cases h3:t<=65535
   ·have d4:decide (t<=65535)=true:=decide_eq_true h3
    have e:qP t=((t / 256 % 32==31)&&decide (t % 256>=1)&&decide (t % 256<=127)):=by
     rw [Qy (p:=t / 256 % 32=31/\t % 256>=1/\t % 256<=127) (by omega)]
     by_cases a:t / 256 % 32=31<;>by_cases b:t % 256>=1<;>by_cases c:t % 256<=127<;>simp [a,b,c]
    obtain⟨a,ha⟩:∃a,(t / 256 % 32==31)=a:=⟨_,rfl⟩
    obtain⟨b,hb⟩:∃b,decide (t % 256>=1)=b:=⟨_,rfl⟩
    obtain⟨c,hc⟩:∃c,decide (t % 256<=127)=c:=⟨_,rfl⟩
    rw [ha,hb,hc]at e
    have E:=iH e
    clear hlo hhi h1 h2 h3 e
    have w1:=W1.out
    cases a<;>cases b<;>cases c
    all_goals
     go_enter Tryz.func94,Tryz.ntmps94
     go_wp2_with fail
     go_ret
     exact⟨by rw [E.out]<;>rfl,rfl⟩
   ·have d4:decide (t<=65535)=false:=decide_eq_false h3
    have e:qP t=false:=decide_eq_false (by omega)
    have E:=iH e
    clear hlo hhi h1 h2 h3 e
    go_enter Tryz.func94,Tryz.ntmps94
    go_wp2_with fail
    go_ret
    exact⟨by rw [E.out]<;>rfl,rfl⟩
 ·have d1:decide (t>=1)=false:=decide_eq_false h1
  have d2:decide (t>=256)=false:=decide_eq_false (by omega)
  have e:qP t=false:=decide_eq_false (by omega)
  have E:=iH e
  clear hlo hhi h1 e
  go_enter Tryz.func94,Tryz.ntmps94
  go_wp2_with fail
  go_ret
  exact⟨by rw [E.out]<;>rfl,rfl⟩
theorem yk(t:Int)(ht:kS t)(w:World):Calls Tryz.prog 95 #[.int .i64 t] w fun e w'=>e=.returned (.bool (jY t))/\w'=w:=by
 have V:=yQ t ht w
 cases h:qP t with
 |false=>
  have E:Hid (jY t=false):=by unfold Hid jY;rw [h]<;>rfl
  rw [h]at V
  have V:=iH V
  clear h ht
  go_enter Tryz.func95,Tryz.ntmps95
  go_wp2_with(go_at_call 94;refine V.out.mono ?_;rintro e w' ⟨rfl,rfl⟩)
  go_ret
  exact⟨by rw [E.out]<;>rfl,rfl⟩
 |true=>
  obtain⟨r1,r2⟩:=yT h
  rw [h]at V
  have V:=iH V
  have q1:Int.tdiv t 256=t / 256:=Int.tdiv_eq_ediv_of_nonneg (by omega)
  have q2:Int.tdiv t 32=t / 32:=Int.tdiv_eq_ediv_of_nonneg (by omega)
  have q3:Int.tdiv (t / 256) 32=t / 256 / 32:=Int.tdiv_eq_ediv_of_nonneg (by omega)
  have q4:Int.tmod (t / 32) 2=t / 32 % 2:=Int.tmod_eq_emod_of_nonneg (by omega)
  have q5:Int.tmod (t / 256 / 32) 2=t / 256 / 32 % 2:=Int.tmod_eq_emod_of_nonneg (by omega)
  by_cases hb:255<t
  ·have d:decide (t>255)=true:=decide_eq_true hb
   have W1:=iH (IntWalk.wrap64_in (t / 256) (by omega))
   have W2:=iH (IntWalk.wrap64_in (t / 256 / 32) (by omega))
   have E:Hid ((t / 256 / 32 % 2==1)=jY t):=by
    unfold Hid jY
    rw [h,iT hb]
    by_cases hc:t / 256 / 32 % 2=1<;>simp [hc]
   clear h ht hb r1 r2
   have w1:=W1.out;have w2:=W2.out
   go_enter Tryz.func95,Tryz.ntmps95
   go_wp2_with(go_at_call 94;refine V.out.mono ?_;rintro e w' ⟨rfl,rfl⟩)
   go_ret
   exact⟨by rw [<-E.out]<;>rfl,rfl⟩
  ·have d:decide (t>255)=false:=decide_eq_false hb
   have W2:=iH (IntWalk.wrap64_in (t / 32) (by omega))
   have E:Hid ((t / 32 % 2==1)=jY t):=by
    unfold Hid jY
    rw [h,iF hb]
    by_cases hc:t / 32 % 2=1<;>simp [hc]
   clear h ht hb r1 r2
   have w2:=W2.out
   go_enter Tryz.func95,Tryz.ntmps95
   go_wp2_with(go_at_call 94;refine V.out.mono ?_;rintro e w' ⟨rfl,rfl⟩)
   go_ret
   exact⟨by rw [<-E.out]<;>rfl,rfl⟩
def qL(n:Nat):List UInt8:=if n<=127 then [ofI n]else if n<=255 then [129,ofI n]else [130,ofI ((n:Int) / 256),ofI n]
theorem Qa(w:World)(l:List UInt8)(t:TypeId)(hl:l.length<=140737488355328)(c:Array Value)(hc:c=(l.map U8).toArray):
 BsS (w.alloc (.cells c t)) (New w (w.alloc (.cells c t))) (.slice (some ⟨w.heap.size,0,none⟩) l.length l.length) l:=by
 subst hc
 refine⟨_,_,rfl,Nat.le_refl _,by omega,hl,fun _=>⟨_,_,rfl,⟨Nat.le_refl _,by simp⟩,fun j hj=> ?_⟩⟩
 rw [Nat.zero_add,cell_of_row _ _ _ _ _ _ (iN)]
 exact(List.getElem?_toArray ..).trans (jZ l j hj)
theorem kE(n:Nat)(hn:n<=65535)(w:World):Calls Tryz.prog 96 #[.int .i64 n] w fun e w'=>∃v',e=.returned v'/\BsS w' (New w w') v' (qL n)/\Below w.heap.size w w':=by
 by_cases h1:n<=127
 ·have d1:decide ((n:Int)<=127)=true:=decide_eq_true (by omega)
  have E:Hid (qL n= [ofI n]):=iT h1
  clear h1 hn
  go_enter Tryz.func96,Tryz.ntmps96
  go_wp2_with fail
  go_ret
  rw [E.out]
  exact⟨_,rfl,Qa w [ofI n] _ (by simp) _ rfl,iA⟩
 ·have d1:decide ((n:Int)<=127)=false:=decide_eq_false (by omega)
  by_cases h2:n<=255
  ·have d2:decide ((n:Int)<=255)=true:=decide_eq_true (by omega)
   have E:Hid (qL n= [129,ofI n]):=by unfold Hid qL;rw [iF h1,iT h2]
   clear h1 h2 hn
   go_enter Tryz.func96,Tryz.ntmps96
   go_wp2_with fail
   go_ret
   rw [E.out]
   exact⟨_,rfl,Qa w [129,ofI n] _ (by simp) _ rfl,iA⟩
  ·have d2:decide ((n:Int)<=255)=false:=decide_eq_false (by omega)
   have E:Hid (qL n= [130,ofI ((n:Int) / 256),ofI n]):=by unfold Hid qL;rw [iF h1,iF h2]
   clear h1 h2 hn
   go_enter Tryz.func96,Tryz.ntmps96
   go_wp2_with fail
   go_ret
   rw [E.out]
   exact⟨_,rfl,Qa w [130,ofI ((n:Int) / 256),ofI n] _ (by simp) _ rfl,iA⟩
abbrev IntBox(w:World)(p:Nat)(c:Int):Prop:=w.heap[p]?=some (.cells #[.int .i64 c] 3 (0,0))
def QG(w:World)(p:Nat)(r c n:Int)(w':World):Prop:=(∃c',IntBox w' p c'/\(r=0->c'=c+n))/\w.grownBy w' (some p)
theorem BsS.form2{w:World}{S:Nat->Prop}{v:Value}{l:List UInt8}(h:BsS w S v l):∃A c,v=.slice A l.length c:=by
 obtain⟨a,c,hv,_⟩:=h;exact⟨a,c,hv⟩
theorem NsAt.zero{w:World}{S:Nat->Prop}{L:Ns}{a:Option Addr}{b off:Nat}{X:Prop}(h:0<L.len->a=some ⟨b,off,none⟩/\X/\NsAt w S L b off):NsAt w S L b off:=by
 cases L with
 |nil=>trivial
 |cons t v k r=>exact(h (by simp [Ns.len])).2.2
theorem NsAt.grown{w w':World}{p:Nat}{L:Ns}{b off:Nat}(h:NsAt w (fun b=>b<w.heap.size/\b≠p) L b off)(hb:b≠p)(hl:b<w.heap.size)(hg:w.grownBy w' (some p)):NsAt w' (fun b=>b<w'.heap.size/\b≠p) L b off:=
 NsAt.keep (fun b hs hl=>⟨hg.block b hl (by intro e;injection e;exact hs.2 (by omega)),⟨iZ hl hg.size,hs.2⟩⟩) L b off ⟨hl,hb⟩ hl h
theorem NsS.grown{w w':World}{p:Nat}{L:Ns}{v:Value}(h:NsS w (fun b=>b<w.heap.size/\b≠p) v L)(hg:w.grownBy w' (some p)):NsS w' (fun b=>b<w'.heap.size/\b≠p) v L:=
 h.keep (fun b hs hl=>⟨hg.block b hl (by intro e;injection e;exact hs.2 (by omega)),⟨iZ hl hg.size,hs.2⟩⟩)
theorem IntBox.cell{w:World}{p:Nat}{c:Int}(h:IntBox w p c):w.cell? ⟨p,0,none⟩=some (.int .i64 c):=by rw [cell_of_row _ _ _ _ _ _ h]<;>rfl
theorem IntBox.lt{w:World}{p:Nat}{c:Int}(h:IntBox w p c):p<w.heap.size:=(iG h)
theorem IntBox.alloc{w:World}{p:Nat}{c:Int}(h:IntBox w p c)(o:Obj):IntBox (w.alloc o) p c:=(Below.heap_alloc w o p h.lt).trans h
theorem IntBox.set{w:World}{p:Nat}{c:Int}(h:IntBox w p c)(n:Int):IntBox (w.setCell ⟨p,0,none⟩ (.int .i64 n)) p n:=
 one_setCell h
theorem zQ(t:Int)(v:List UInt8)(k r:Ns)(d:Nat)(h1:qP t=true)(h2:¬((jY t=false/\0<k.len)\/(jY t=true/\0<v.length))):(Ns.cons t v k r).chk d=if 8<d then 7 else if k.chk (d+1)=0 then r.chk d else k.chk (d+1):=by
 rw [Ns.chk,iF (by rw [h1];decide),iF h2]
theorem qw{w wr:World}{p:Nat}{cc:Int}(hg:w.grownBy wr (some p))(hb:IntBox wr p cc)(o:Obj):
 IntBox ((wr.setCell ⟨p,0,none⟩ (.int .i64 (cc+1))).alloc o) p (cc+1)/\w.grownBy ((wr.setCell ⟨p,0,none⟩ (.int .i64 (cc+1))).alloc o) (some p):=
 ⟨(hb.set _).alloc o,kf (jb hg (.inl rfl) _) o⟩
theorem xH{w wr:World}{p:Nat}{cc r c n:Int}(hg:w.grownBy wr (some p))(hb:IntBox wr p cc)(hr:r≠0)(o:Obj):QG w p r c n ((wr.setCell ⟨p,0,none⟩ (.int .i64 (cc+1))).alloc o):=
 ⟨⟨_,(qw hg hb o).1,fun h=>absurd h hr⟩,(qw hg hb o).2⟩
theorem Xb{wr:World}{p:Nat}{_t cc:Int}{ka:Option Addr}{kc:Nat}{k:Ns}(h6:k.len<=kc)(h7:kc<=maxLen)(h8:k.len<=2513169434843)
 (h9:0<k.len->∃b' off',ka=some ⟨b',off',none⟩/\(b'<wr.heap.size/\b'≠p)/\b'<wr.heap.size/\NsAt wr (fun b=>b<wr.heap.size/\b≠p) k b' off') (hb:IntBox wr p cc) (o:Obj):
 NsS ((wr.setCell ⟨p,0,none⟩ (.int .i64 (cc+1))).alloc o) (fun b=>b<((wr.setCell ⟨p,0,none⟩ (.int .i64 (cc+1))).alloc o).heap.size/\b≠p) (.slice ka k.len kc) k:=
 NsS.grown ⟨ka,kc,rfl,h6,h7,h8,h9⟩ (qw (World.grownBy.refl wr _) hb o).2
theorem NsAt.keep'{wr w2:World}{p:Nat}{cc:Int}{r:Ns}{b off:Nat}(h:NsAt wr (fun b=>b<wr.heap.size/\b≠p) r b off)(hbp:b≠p)(hbl:b<wr.heap.size)(hb:IntBox wr p cc)(o:Obj)
 (hg:((wr.setCell ⟨p,0,none⟩ (.int .i64 (cc+1))).alloc o).grownBy w2 (some p)):NsAt w2 (fun b=>b<w2.heap.size/\b≠p) r b off:=
 h.grown hbp hbl (kG (qw (World.grownBy.refl wr _) hb o).2 hg)
theorem Uy(n:Nat):∀(L:Ns) (v:Value) (d:Nat) (c:Int) (p:Nat) (w:World),L.all<=n->NsS w (fun b=>b<w.heap.size/\b≠p) v L->d<=9->0<=c->c+L.all<=1000000000000->IntBox w p c->
 Calls Tryz.prog 110 #[v,.int .i64 d,.pointer (some ⟨p,0,none⟩)] w fun e w'=>e=.returned (.int .i64 (L.chk d))/\QG w p (L.chk d) c L.all w':=by
 induction n with
 |zero=>
  intro L v d c p w hn hv hd hc0 hc1 hp
  cases L with
  |cons t v k r=>simp only [Ns.all]at hn;omega
  |nil=>
   obtain⟨a,cap,rfl,hlc,hcap,hlen,hcells⟩:=hv
   clear hcells
   simp only [Ns.len]at*
   have Hp:=iH hp;clear hp
   go_enter Tryz.func110,Tryz.ntmps110
   go_wp2_with fail
   refine wp_loop_rounds 1 ?_
   rw [rounds_succ]
   go_wp2
   go_ret
   exact⟨rfl,⟨_,Hp.out,fun _=>by simp [Ns.all]⟩,World.grownBy.refl w _⟩
 |succ n ih=>
  intro L v d c p w hn hv hd hc0 hc1 hp
  obtain⟨a,cap,rfl,hlc,hcap,hlen,hcells⟩:=hv
  have hcap':cap<=9223372036854775807:=hcap
  obtain⟨b,off,hb⟩:∃b off,Hid (0<L.len->a=some ⟨b,off,none⟩/\(b<w.heap.size/\b≠p)/\NsAt w (fun b=>b<w.heap.size/\b≠p) L b off):=by
   rcases Nat.eq_zero_or_pos L.len with h0|h0
   ·exact⟨0,0,fun h=>by omega⟩
   ·obtain⟨b,off,h1,h2,h3,h4⟩:=hcells h0
    exact⟨b,off,fun _=>⟨h1,h2,h4⟩⟩
  clear hcells hcap
  have Hp:=iH hp;clear hp
  go_enter Tryz.func110,Tryz.ntmps110
  go_wp2_with fail
  go_loopg [13] L.len (fun m i wr=>∃(R:Ns) (j:Nat) (cc:Int),R.len=m/\j+R.len=L.len/\i=.int .i64 j/\Hid (R.chk d=L.chk d)/\Hid (cc+R.all=c+L.all)/\0<=cc/\R.all<=n+1/\
   NsAt wr (fun b=>b<wr.heap.size/\b≠p) R b (off+j*3)/\IntBox wr p cc/\w.grownBy wr (some p))
  case atStart=>
   exact⟨L,0,c,rfl,by omega,rfl,rfl,rfl,hc0,hn,by rw [Nat.zero_mul,Nat.add_zero];exact NsAt.zero hb.out,Hp.out,World.grownBy.refl w _⟩
  case round=>
   obtain⟨R,j,cc,rfl,hj,rfl,hchk,hcc,hcc0,hRn,hat,hpb,hg⟩:=hrel
   cases R with
   |nil=>
    simp only [Ns.len,Nat.add_zero]at hj
    subst hj
    go_wp2_with fail
    go_ret
    have e:L.chk d=0:=hchk.out.symm
    refine⟨by rw [e]<;>rfl,⟨_,hpb,fun _=> ?_⟩,hg⟩
    have:=hcc.out
    simp only [Ns.all]at this
    omega
   |cons t v k r=>
    obtain⟨h1,h2,⟨x,h3,h4⟩,⟨ka,kc,h5,h6,h7,h8x,h9⟩,h10⟩:=hat
    simp only [Ns.len]at hj
    simp only [Ns.all]at hRn
    have hcc':=hcc.out
    simp only [Ns.all]at hcc'
    have hlt:(j:Int)<L.len:=by omega
    obtain⟨rfl,⟨hbl,hbp⟩,_⟩:=hb.out (by omega)
    have hbl':b<wr.heap.size:=iZ hbl hg.size
    have hpl:=hpb.lt
    have hpc:=hpb.cell
    have hpf:wr.frozen? ⟨p,0,none⟩=false:=free_of_one hpb
    have Hpb:=iH hpb;clear hpb
    obtain⟨xa,xc,rfl⟩:=h4.form2
    have H4:=iH h4;have H9:=iH h9;have H10:=iH h10;have Hg:=iH hg
    clear h4 h9 h10 hg
    have Hv:=fun w=>iH (Kf t h2 w)
    have Hc:=fun w=>iH (zT t h2 w)
    cases et:qP t with
    |false=>
     rw [et]at Hv
     have E:Hid (L.chk d=4):=by rw [<-hchk.out,Ns.chk,iT et]<;>rfl
     clear et
     go_wp2_with(first|(go_at_call 134;refine(Hv _).out.mono ?_;rintro e w' ⟨rfl,rfl⟩)|(go_at_call 133;refine(Hc _).out.mono ?_;rintro e w' ⟨rfl,rfl⟩))
     go_ret
     exact⟨by rw [E.out]<;>rfl,by rw [E.out];exact xH (r:=4) Hg.out Hpb.out (by decide) _⟩
    |true=>
     rw [et]at Hv
     cases ec:jY t with
     |false=>
      rw [ec]at Hc
      by_cases hk:0<k.len
      ·have E:Hid (L.chk d=1):=by rw [<-hchk.out,Ns.chk,iF (by rw [et];decide),iT (.inl ⟨ec,hk⟩)]<;>rfl
       clear et ec
       go_wp2_with(first|(go_at_call 134;refine(Hv _).out.mono ?_;rintro e w' ⟨rfl,rfl⟩)|(go_at_call 133;refine(Hc _).out.mono ?_;rintro e w' ⟨rfl,rfl⟩))
       go_ret
       exact⟨by rw [E.out]<;>rfl,by rw [E.out];exact xH (r:=1) Hg.out Hpb.out (by decide) _⟩
      ·have B:=zQ t v k r d et (by rw [ec];simp;omega)
       rw [hchk.out]at B
       clear et ec
       by_cases h8:8<d
       ·have E:Hid (L.chk d=7):=by rw [B,iT h8]<;>rfl
        clear B
        go_wp2_with(first|(go_at_call 134;refine(Hv _).out.mono ?_;rintro e w' ⟨rfl,rfl⟩)|(go_at_call 133;refine(Hc _).out.mono ?_;rintro e w' ⟨rfl,rfl⟩))
        go_ret
        exact⟨by rw [E.out]<;>rfl,by rw [E.out];exact xH (r:=7) Hg.out Hpb.out (by decide) _⟩
       ·rw [iF h8]at B
        obtain⟨HI,HG⟩:=qw Hg.out Hpb.out (.cells #[.int .i64 t,.slice xa v.length xc,.slice ka k.len kc] 61)
        have HB:=Xb (p:=p) (_t:=t) (cc:=cc) h6 h7 h8x H9.out Hpb.out (.cells #[.int .i64 t,.slice xa v.length xc,.slice ka k.len kc] 61)
        have HK:=ih k (.slice ka k.len kc) (d+1) (cc+1) p _ (by omega) HB (by omega) (by omega) (by omega) HI
        rw [show((d+1:Nat):Int)=(d:Int)+1 from rfl]at HK
        have HK:=iH HK;have HI:=iH HI;have HG:=iH HG;have HB:=iH HB
        by_cases hk0:k.chk (d+1)=0
        ·rw [iT hk0]at B
         rw [hk0]at HK
         have B:=iH B;clear hk0
         go_wp2_with(first|(go_at_call 134;refine(Hv _).out.mono ?_;rintro e w' ⟨rfl,rfl⟩)|(go_at_call 133;refine(Hc _).out.mono ?_;rintro e w' ⟨rfl,rfl⟩)|(go_at_call 110;refine HK.out.mono ?_;rintro e w2 ⟨rfl,hpost⟩;have hpost:=iH hpost))
         go_roundg r.len
         case measure=>simp [Ns.len]
         case rel=>
          obtain⟨⟨c2,hb2,hc2⟩,hg2⟩:=hpost.out
          have hc2':=hc2 rfl
          refine⟨r,j+1,c2,rfl,by omega,by go_num,B.out.symm,?_,by omega,by omega,?_,hb2,kG HG.out hg2⟩
          ·show _=_
           omega
          ·rw [Nat.add_mul,<-Nat.add_assoc]
           exact(NsAt.keep' H10.out hbp hbl' Hpb.out _ hg2)
        ·rw [iF hk0]at B
         have e0:((k.chk (d+1)) != 0)=true:=by simp [hk0]
         have B:=iH B;have Hk0:=iH hk0;clear hk0
         go_wp2_with(first|(go_at_call 134;refine(Hv _).out.mono ?_;rintro e w' ⟨rfl,rfl⟩)|(go_at_call 133;refine(Hc _).out.mono ?_;rintro e w' ⟨rfl,rfl⟩)|(go_at_call 110;refine HK.out.mono ?_;rintro e w2 ⟨rfl,hpost⟩;have hpost:=iH hpost))
         go_ret
         obtain⟨⟨c2,hb2,hc2⟩,hg2⟩:=hpost.out
         exact⟨by rw [B.out]<;>rfl,⟨_,hb2,fun h=>absurd (by rw [<-B.out];exact h) Hk0.out⟩,kG HG.out hg2⟩
     |true=>
      rw [ec]at Hc
      by_cases hk:0<v.length
      ·have E:Hid (L.chk d=1):=by rw [<-hchk.out,Ns.chk,iF (by rw [et];decide),iT (.inr ⟨ec,hk⟩)]<;>rfl
       clear et ec
       go_wp2_with(first|(go_at_call 134;refine(Hv _).out.mono ?_;rintro e w' ⟨rfl,rfl⟩)|(go_at_call 133;refine(Hc _).out.mono ?_;rintro e w' ⟨rfl,rfl⟩))
       go_ret
       exact⟨by rw [E.out]<;>rfl,by rw [E.out];exact xH (r:=1) Hg.out Hpb.out (by decide) _⟩
      ·have B:=zQ t v k r d et (by rw [ec];simp;exact List.eq_nil_of_length_eq_zero (by omega))
       rw [hchk.out]at B
       clear et ec
       by_cases h8:8<d
       ·have E:Hid (L.chk d=7):=by rw [B,iT h8]<;>rfl
        clear B
        go_wp2_with(first|(go_at_call 134;refine(Hv _).out.mono ?_;rintro e w' ⟨rfl,rfl⟩)|(go_at_call 133;refine(Hc _).out.mono ?_;rintro e w' ⟨rfl,rfl⟩))
        go_ret
        exact⟨by rw [E.out]<;>rfl,by rw [E.out];exact xH (r:=7) Hg.out Hpb.out (by decide) _⟩
       ·rw [iF h8]at B
        obtain⟨HI,HG⟩:=qw Hg.out Hpb.out (.cells #[.int .i64 t,.slice xa v.length xc,.slice ka k.len kc] 61)
        have HB:=Xb (p:=p) (_t:=t) (cc:=cc) h6 h7 h8x H9.out Hpb.out (.cells #[.int .i64 t,.slice xa v.length xc,.slice ka k.len kc] 61)
        have HK:=ih k (.slice ka k.len kc) (d+1) (cc+1) p _ (by omega) HB (by omega) (by omega) (by omega) HI
        rw [show((d+1:Nat):Int)=(d:Int)+1 from rfl]at HK
        have HK:=iH HK;have HI:=iH HI;have HG:=iH HG;have HB:=iH HB
        by_cases hk0:k.chk (d+1)=0
        ·rw [iT hk0]at B
         rw [hk0]at HK
         have B:=iH B;clear hk0
         go_wp2_with(first|(go_at_call 134;refine(Hv _).out.mono ?_;rintro e w' ⟨rfl,rfl⟩)|(go_at_call 133;refine(Hc _).out.mono ?_;rintro e w' ⟨rfl,rfl⟩)|(go_at_call 110;refine HK.out.mono ?_;rintro e w2 ⟨rfl,hpost⟩;have hpost:=iH hpost))
         go_roundg r.len
         case measure=>simp [Ns.len]
         case rel=>
          obtain⟨⟨c2,hb2,hc2⟩,hg2⟩:=hpost.out
          have hc2':=hc2 rfl
          refine⟨r,j+1,c2,rfl,by omega,by go_num,B.out.symm,?_,by omega,by omega,?_,hb2,kG HG.out hg2⟩
          ·show _=_
           omega
          ·rw [Nat.add_mul,<-Nat.add_assoc]
           exact(NsAt.keep' H10.out hbp hbl' Hpb.out _ hg2)
        ·rw [iF hk0]at B
         have e0:((k.chk (d+1)) != 0)=true:=by simp [hk0]
         have B:=iH B;have Hk0:=iH hk0;clear hk0
         go_wp2_with(first|(go_at_call 134;refine(Hv _).out.mono ?_;rintro e w' ⟨rfl,rfl⟩)|(go_at_call 133;refine(Hc _).out.mono ?_;rintro e w' ⟨rfl,rfl⟩)|(go_at_call 110;refine HK.out.mono ?_;rintro e w2 ⟨rfl,hpost⟩;have hpost:=iH hpost))
         go_ret
         obtain⟨⟨c2,hb2,hc2⟩,hg2⟩:=hpost.out
         exact⟨by rw [B.out]<;>rfl,⟨_,hb2,fun h=>absurd (by rw [<-B.out];exact h) Hk0.out⟩,kG HG.out hg2⟩
end Go.Proofs.YtadndhgebgjlaaaGreat
