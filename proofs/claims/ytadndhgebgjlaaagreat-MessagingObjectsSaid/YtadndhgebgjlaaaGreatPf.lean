/- Layer 2, plain: which numbers are tags, and of constructed objects; Layer 2, plain: what is read from bytes and what is written for objects. No program is na... -/
import Derived.Test.YtadndhgebgjlaaaGreatPe
set_option linter.all false
namespace Go.Proofs.YtadndhgebgjlaaaGreat
open Go.RowKit
def qX(t:Int):Bool:=decide ((1<=t/\t<=255/\¬t % 32=31)\/(256<=t/\t<=65535/\t / 256 % 32=31/\1<=t % 256/\t % 256<=127))
def jY(t:Int):Bool:=qX t&&decide ((if 255<t then t / 256 else t) / 32 % 2=1)
def qg(l:List UInt8):Except Int (Int×Nat):=
 if l.length=0 then .error 6
 else if bv (gb l 0) % 32=31 then
  if l.length<2 then .error 6
  else if qX (256*bv (gb l 0)+bv (gb l 1))=true then .ok (256*bv (gb l 0)+bv (gb l 1),2)else .error 4
 else if qX (bv (gb l 0))=true then .ok (bv (gb l 0),1)else .error 4
def beV(l:List UInt8):Nat->Int
 |0=>0
 |k+1=>256*beV l k+bv (gb l (k+1))
def jG(l:List UInt8)(opn strict:Bool):Except Int (Int×Nat):=
 if l.length=0 then .error 6
 else if bv (gb l 0)<128 then .ok (bv (gb l 0),1)
 else if 132<bv (gb l 0)then .error 5
 else if bv (gb l 0)=128 then(if opn=true then .ok (-1,1)else .error 5)
 else if l.length<1+((gb l 0).toNat - 128)then .error 6
 else if strict=true/\(beV l ((gb l 0).toNat - 128)<128\/(1<(gb l 0).toNat - 128/\gb l 1=0))then .error 5
 else .ok (beV l ((gb l 0).toNat - 128),1+((gb l 0).toNat - 128))
structure j3x where
 tag:Int
 val:List UInt8
 kids:Ns
 used:Nat
 count:Nat
structure Lst where
 list:Ns
 used:Nat
 count:Nat
def yL(strict:Bool)(L:List UInt8->Nat->Nat->Bool->Except Int Lst)(l:List UInt8)(d c:Nat):Except Int j3x:=
 match qg l with
 |.error e=>.error e
 |.ok (t,k)=>
  match jG (l.drop k) (jY t&& !strict) strict with
  |.error e=>.error e
  |.ok (n,j)=>
   if 8<d then .error 7
   else if 256<c+1 then .error 2
   else if((l.drop (k+j)).length:Int)<n then .error 6
   else if n<0 then
    match L (l.drop (k+j)) (d+1) (c+1) true with
    |.error e=>.error e
    |.ok r=>.ok ⟨t,[],r.list,k+j+r.used,r.count⟩
   else if jY t=true then
    match L ((l.drop (k+j)).take n.toNat) (d+1) (c+1) false with
    |.error e=>.error e
    |.ok r=>.ok ⟨t,[],r.list,k+j+n.toNat,r.count⟩
   else .ok ⟨t,(l.drop (k+j)).take n.toNat,.nil,k+j+n.toNat,c+1⟩
def kj(l:List UInt8)(opn:Bool):Option (Except Int Nat):=
 if opn=true then
  if l.length=0\/(gb l 0=0/\l.length=1)then some (.error 6)
  else if gb l 0=0/\gb l 1=0 then some (.ok 2)else none
 else if l.length=0 then some (.ok 0)else none
def jh(strict:Bool):Nat->List UInt8->Nat->Nat->Bool->Except Int Lst
 |n,l,d,c,opn=>
  match kj l opn with
  |some (.error e)=>.error e
  |some (.ok u)=>.ok ⟨.nil,u,c⟩
  |none=>
   match n with
   |0=>.error 6
   |n+1=>
    match yL strict (jh strict n) l d c with
    |.error e=>.error e
    |.ok o=>
     match jh strict n (l.drop o.used) d o.count opn with
     |.error e=>.error e
     |.ok r=>.ok ⟨.cons o.tag o.val o.kids r.list,o.used+r.used,r.count⟩
abbrev kP(strict:Bool)(n:Nat):=yL strict (jh strict n)
def jK(l:List UInt8)(strict:Bool):Except Int Ns:=
 if 4096<l.length then .error 2
 else match jh strict l.length l 1 0 false with
  |.error e=>.error e
  |.ok r=>.ok r.list
def leN:Nat->Nat->List UInt8
 |0,_=>[]
 |f+1,n=>if n=0 then []else ofI n :: leN f (n / 256)
def xu(n:Nat):List UInt8:=if n<128 then [ofI n]else ofI (128+(leN 8 n).length) :: (leN 8 n).reverse
def ku(t:Int):List UInt8:=if 255<t then [ofI (t / 256),ofI t]else [ofI t]
def Ns.enc:Ns->List UInt8
 |.nil=>[]
 |.cons t v k r=>ku t++xu (if jY t then k.enc else v).length++(if jY t then k.enc else v)++r.enc
def Ns.all:Ns->Nat
 |.nil=>0
 |.cons _ _ k r=>1+k.all+r.all
def Ns.chk:Ns->Nat->Int
 |.nil,_=>0
 |.cons t v k r,d=>
  if qX t=false then 4
  else if(jY t=false/\0<k.len)\/(jY t=true/\0<v.length)then 1
  else if 8<d then 7
  else if k.chk (d+1)=0 then r.chk d else k.chk (d+1)
def qG(l:Ns):Except Int (List UInt8):=
 if l.chk 1≠0 then .error (l.chk 1)
 else if 256<l.all then .error 2
 else if 4096<l.enc.length then .error 2
 else .ok l.enc
end Go.Proofs.YtadndhgebgjlaaaGreat
