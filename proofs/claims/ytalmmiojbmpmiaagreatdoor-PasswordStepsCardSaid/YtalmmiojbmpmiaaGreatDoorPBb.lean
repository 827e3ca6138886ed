/- Words for an exchange that a pointer leads to; Layer 21: generators, on both sides; Layer 21: the first steps -/
import Derived.Test.YtalmmiojbmpmiaaGreatDoorPz
import Derived.Test.YtalmmiojbmpmiaaGreatDoorPBa
set_option linter.all false
set_option maxRecDepth 100000
set_option maxHeartbeats 4000000
namespace Go.Proofs.YtalmmiojbmpmiaaGreatDoor
open Go.RowKit Go.Deep
theorem m12{P:Prop}(h:P:=by
 by_cases h0:z % 1073741789=0
 ·rw [h0,zd]at hp4;omega
 ·have h:=jD (k9 4 (z % 1073741789:Nat) xJ (by unfold okS;exact decide_eq_true (by omega)))
  rw [show jN 4 ((z % 1073741789:Nat):Int)=((gpw 64 1 4 (z % 1073741789):Nat):Int) from rfl,hp4]at h
  omega):P:=h
theorem m1a{P:Prop}(h:P:=by
 unfold j2k
 rw [hz,show jN on kn=((gpw 64 1 on kn:Nat):Int) from rfl,hq4,show(z:Int) % 1073741789=((z % 1073741789:Nat):Int)by omega,show jN 4 ((z % 1073741789:Nat):Int)=((gpw 64 1 4 (z % 1073741789):Nat):Int) from rfl,hp4]
 omega):P:=h
theorem m25{P:Prop}(h:P:=by
 go_enter Tryz.func23,Tryz.ntmps23
 go_wp2_with(go_at_call 56;refine iR (HSH.out w) ?_)
 go_ret2
 rw [R.out]
 exact⟨rfl,rfl⟩):P:=h
theorem m26{P:Prop}(h:P:=by
 go_enter Tryz.func24,Tryz.ntmps24
 go_wp2_with(go_at_call 60;refine iR (HSH.out w) ?_)
 go_ret2
 rw [R.out]
 exact⟨rfl,rfl⟩):P:=h
theorem m2p{P:Prop}(h:P:=by
 have h:=jD (k9 on kn ho hk)
 rw [show jN on kn=((gpw 64 1 on kn:Nat):Int) from rfl,hq4]at h
 omega):P:=h
def PtW(P:Nat)(w W:World)(row:Array Value):Prop:=W.heap[P]?=some (.cells row 48 (0,0))/\w.grownBy W (some P)/\Below P w W
abbrev j7(P:Nat)(W:World):Nat->Prop:=fun b=>b<W.heap.size/\b≠P
section
variable {P:Nat} {w W W':World} {row:Array Value} {u:Value} {l:List UInt8}
theorem PtW.start(h:w.heap[P]?=some (.cells row 48 (0,0))):PtW P w w row:=⟨h,World.grownBy.refl _ _,Below.refl _ _⟩
theorem PtW.lt(h:PtW P w W row):P<W.heap.size:=lt_of_block h.1
theorem jH{r:Option Nat}(hb:Below W.heap.size W W'):W.grownBy W' r:=⟨hb.os,hb.tape,hb.output,hb.size,fun i hi _=>hb.block i hi⟩
theorem PtW.call(h:PtW P w W row)(hb:Below W.heap.size W W'):PtW P w W' row:=
 ⟨(hb.block P h.lt).trans h.1,kF h.2.1 (jH hb),h.2.2.trans (hb.mono (Nat.le_of_lt h.lt))⟩
theorem PtW.set(h:PtW P w W row)(i:Nat)(v:Value):PtW P w (W.setCell ⟨P,i,none⟩ v) (row.set! i v):=
 ⟨ky (o:=i) h.1,ja h.2.1 (.inl rfl) _,h.2.2.setCell iL _⟩
theorem PtW.drew(h:PtW P w W row):PtW P w W.drew row:=⟨h.1,⟨h.2.1.os,h.2.1.tape,h.2.1.output,h.2.1.size,h.2.1.block⟩,h.2.2.drew⟩
theorem PtW.trans{row':Array Value}(h:PtW P w W row)(h':PtW P W W' row'):PtW P w W' row':=⟨h'.1,kF h.2.1 h'.2.1,h.2.2.trans h'.2.2⟩
theorem BsS.setP(h:BsS W (j7 P W) u l)(i:Nat)(v:Value):BsS (W.setCell ⟨P,i,none⟩ v) (j7 P (W.setCell ⟨P,i,none⟩ v)) u l:=
 h.keep fun b hs hl=>⟨iO hs.2,by simpa [World.setCell]using hl,hs.2⟩
theorem BsS.grownP(h:BsS W (j7 P W) u l)(hg:W.grownBy W' (some P)):BsS W' (j7 P W') u l:=
 h.keep fun b hs hl=>⟨hg.block b hl (fun e=>by injection e with e;exact hs.2 e),iZ hl hg.size,hs.2⟩
end
def PtO(P:Nat)(w:World)(X:Exg)(W:World):Prop:=
 ∃sA nA aA bA sc nc ac bc,PtW P w W #[.int .i64 X.kd,.slice sA X.sec.length sc,.int .i64 X.pr,.int .i64 X.st,.slice nA X.non.length nc,.int .i64 X.x,.int .i64 X.g,.int .i64 X.own,.int .i64 X.oth,.slice aA X.k1.length ac,.slice bA X.k2.length bc,.int .i64 X.ct]
  /\BsS W (j7 P W) (.slice sA X.sec.length sc) X.sec/\BsS W (j7 P W) (.slice nA X.non.length nc) X.non/\BsS W (j7 P W) (.slice aA X.k1.length ac) X.k1/\BsS W (j7 P W) (.slice bA X.k2.length bc) X.k2
def yI(P:Nat)(w:World)(tag:Int)(X:Exg)(dt nx:List UInt8)(e:Ending)(w':World):Prop:=
 ∃dA dc nA nc,e=.returned (.tuple #[.int .i64 tag,.slice dA dt.length dc,.slice nA nx.length nc,.int .i64 0])/\PtO P w X w'/\BsS w' (j7 P w') (.slice dA dt.length dc) dt/\BsS w' (j7 P w') (.slice nA nx.length nc) nx
def JG(P:Nat)(w:World)(er:Int)(e:Ending)(w':World):Prop:=
 e=.returned (.tuple #[.int .i64 0,.slice none 0 0,.slice none 0 0,.int .i64 er])/\∃a b c d f g h i j k l m:Value,PtW P w w' #[a,b,c,d,f,g,h,i,j,k,l,m]
theorem QW(l:List UInt8)(h:7<=l.length)(v:Value)(w:World)(hv:Bs w w.heap.size v l):
 Calls Tryz.prog 58 #[v] w fun e w'=>e=.returned (.int .i64 (zy (l.take 7)))/\w'=w:=by
 obtain⟨A,c,rfl⟩:=Bs.formL hv
 have hc:=(show l.length<=c by obtain⟨a,c',e,q1,_⟩:=hv;obtain⟨_,_,hc⟩:=Value.slice.inj e;omega)
 have hc9:=(show c<=9223372036854775807 by obtain⟨a,c',e,_,q2,_⟩:=hv;obtain⟨_,_,hc⟩:=Value.slice.inj e;omega)
 obtain⟨z,hz,hz9,hq⟩:=j5b l h
 have HC:=iH (BsS.cut hv (k:=7) (d:=c) h (by omega) hc9)
 have HZ:=iH hz;have HQ:=iH hq
 clear hv hz hq
 go_enter Tryz.func58,Tryz.ntmps58
 go_wp2_with(go_at_call 118;refine iR (qY _ _ _ w HC.out) ?_;rw [HQ.out])
 go_ret
 exact⟨by rw [HZ.out]<;>rfl,rfl⟩
theorem Ux(k x:Int)(h:okS k=false)(w:World):Calls Tryz.prog 56 #[.int .i64 k,.int .i64 x] w fun e w'=>e=.returned (.tuple #[.int .i64 0,.int .i64 3])/\w'=w:=by
 have H:=iH h
 clear h
 go_enter Tryz.func56,Tryz.ntmps56
 go_wp2_with(first
  |(go_at_call 114;refine iR (xh k w) ?_;rw [H.out]))
 go_ret2
 exact⟨rfl,rfl⟩
theorem ZU(k x:Int)(h:(okS k=true/\jk x=false))(w:World):Calls Tryz.prog 56 #[.int .i64 k,.int .i64 x] w fun e w'=>e=.returned (.tuple #[.int .i64 0,.int .i64 10])/\w'=w:=by
 have H:=iH h
 clear h
 go_enter Tryz.func56,Tryz.ntmps56
 go_wp2_with(first
  |(go_at_call 114;refine iR (xh k w) ?_;rw [H.out.1])
  |(go_at_call 115;refine iR (kj x w) ?_;rw [H.out.2]))
 go_ret2
 exact⟨rfl,rfl⟩
theorem Y9(k x:Int)(h:okS k=false)(w:World):Calls Tryz.prog 60 #[.int .i64 k,.int .i64 x] w fun e w'=>e=.returned (.tuple #[.int .i64 0,.int .i64 3])/\w'=w:=by
 have H:=iH h
 clear h
 go_enter Tryz.func60,Tryz.ntmps60
 go_wp2_with(first
  |(go_at_call 119;refine iR (kW k w) ?_;rw [H.out]))
 go_ret2
 exact⟨rfl,rfl⟩
theorem Zi(k x:Int)(h:(okS k=true/\jk x=false))(w:World):Calls Tryz.prog 60 #[.int .i64 k,.int .i64 x] w fun e w'=>e=.returned (.tuple #[.int .i64 0,.int .i64 10])/\w'=w:=by
 have H:=iH h
 clear h
 go_enter Tryz.func60,Tryz.ntmps60
 go_wp2_with(first
  |(go_at_call 119;refine iR (kW k w) ?_;rw [H.out.1])
  |(go_at_call 29;refine iR (jK x w) ?_;rw [H.out.2]))
 go_ret2
 exact⟨rfl,rfl⟩
section
variable(n:List UInt8)(v:Value)(k o:Int)(w:World)(hv:Bs w w.heap.size v n)
include n v k o w hv
theorem xg:
 Calls Tryz.prog 23 #[v,.int .i64 k,.int .i64 o] w fun e w'=>e=.returned (.tuple #[.int .i64 (qQ n k o).2,.int .i64 (qQ n k o).1])/\w'=w:=by
 obtain⟨A,c,rfl⟩:=Bs.formL hv
 have HV:=iH hv
 clear hv
 by_cases hl:n.length=16
 ·have t1:((n.length:Int) != 16)=false:=by simp;omega
  have HL:=iH hl
  rcases hk:okS k with _|_
  ·have R:Hid (qQ n k o=(3,0)):=iH (by unfold qQ;rw [iF (fun h=>h hl),iT hk])
   have HSH:=iH (Ux k o hk)
   clear hl hk
   exact m25
  rcases ho:jk o with _|_
  ·have R:Hid (qQ n k o=(10,0)):=iH (by unfold qQ;rw [iF (fun h=>h hl),iF (by rw [hk];simp),iT ho])
   have HSH:=iH (ZU k o ⟨hk,ho⟩)
   clear hl hk ho
   exact m25
  have hki:=Jc hk
  have hoi:=jD ho
  obtain⟨kn,rfl⟩:∃a:Nat,k=a:=⟨k.toNat,by omega⟩
  obtain⟨on,rfl⟩:∃a:Nat,o=a:=⟨o.toNat,by omega⟩
  have HSH:=iH (JT kn on (by omega) (by omega) ho)
  obtain⟨z,hz,hz9,_⟩:=j5b n (by omega)
  obtain⟨p,hp4⟩:∃p,gpw 64 1 4 (z % 1073741789)=p:=⟨_,rfl⟩
  obtain⟨q,hq4⟩:∃q,gpw 64 1 on kn=q:=⟨_,rfl⟩
  have hq0:0<q/\q<2147483579:=by
   exact m2p
  have hp0:0<p:=by
   exact m12
  have hp9:p<2147483579:=by rw [<-hp4];exact XT 64 1 4 _ (by decide)
  have hq9:q<2147483579:=hq0.2
  have hG:j2k n kn on=((p*q % 2147483579:Nat):Int):=by
   exact m1a
  have HZ:=iH hz
  have HZM:Hid (zy (n.take 7) % (1073741789:Nat)=((z % 1073741789:Nat):Int)):=iH (by rw [hz];omega)
  have hpz:z % 1073741789<1073741789:=Nat.mod_lt _ (by decide)
  have hq1:=hq0.1
  rw [hq4]at HSH
  have HPW:=iH (KW 4 (z % 1073741789) (by omega) (by omega) (by omega))
  rw [hp4]at HPW
  have HMU:=iH (YL p q (by omega) (by omega) (by omega) (by omega))
  have e1:=X6 z 1073741789
  obtain⟨pq,hpq⟩:∃pq,p*q % 2147483579=pq:=⟨_,rfl⟩
  rw [hpq]at hG
  rw [hpq]at HMU
  by_cases h1:pq=1
  ·have R:Hid (qQ n kn on=(10,0)):=iH (by unfold qQ;rw [iF (fun h=>h hl),iF (by rw [hk];simp),iF (by rw [ho];simp),hG,iT (by omega)])
   subst h1
   clear hl hk ho hki hoi hz hp4 hq4 hq0 hp0 hG hq1 hpq
   go_enter Tryz.func23,Tryz.ntmps23
   go_wp2_with(first
    |(go_at_call 59;refine iR (HMU.out w) ?_)
    |(go_at_call 57;refine iR (HPW.out w) ?_)
    |(go_at_call 58;refine(QW n (by rw [HL.out];omega) _ w HV.out).mono ?_;rw [HZ.out];rintro e w' ⟨rfl,hw'⟩;rw [hw'];clear hw' w')
    |(go_at_call 56;refine iR (HSH.out w) ?_))
   go_ret2
   rw [R.out]
   exact⟨rfl,rfl⟩
  ·have R:Hid (qQ n kn on=(0,(pq:Int))):=iH (by unfold qQ;rw [iF (fun h=>h hl),iF (by rw [hk];simp),iF (by rw [ho];simp),hG,iF (by omega)])
   have t2:((pq:Int)==1)=false:=by simp;omega
   clear hl hk ho hki hoi hz hp4 hq4 hq0 hp0 hG hq1 hpq h1
   go_enter Tryz.func23,Tryz.ntmps23
   go_wp2_with(first
    |(go_at_call 59;refine iR (HMU.out w) ?_)
    |(go_at_call 57;refine iR (HPW.out w) ?_)
    |(go_at_call 58;refine(QW n (by rw [HL.out];omega) _ w HV.out).mono ?_;rw [HZ.out];rintro e w' ⟨rfl,hw'⟩;rw [hw'];clear hw' w')
    |(go_at_call 56;refine iR (HSH.out w) ?_))
   go_ret2
   rw [R.out]
   exact⟨rfl,rfl⟩
 ·have R:Hid (qQ n k o=(2,0)):=iH (by unfold qQ;rw [iT hl])
  have t1:((n.length:Int) != 16)=true:=by simp;omega
  clear hl
  go_enter Tryz.func23,Tryz.ntmps23
  go_wp2_with fail
  go_ret2
  rw [R.out]
  exact⟨rfl,rfl⟩
theorem qO:
 Calls Tryz.prog 24 #[v,.int .i64 k,.int .i64 o] w fun e w'=>e=.returned (.tuple #[.int .i64 (qQ n k o).2,.int .i64 (qQ n k o).1])/\w'=w:=by
 obtain⟨A,c,rfl⟩:=Bs.formL hv
 have HV:=iH hv
 clear hv
 by_cases hl:n.length=16
 ·have t1:((n.length:Int) != 16)=false:=by simp;omega
  have HL:=iH hl
  rcases hk:okS k with _|_
  ·have R:Hid (qQ n k o=(3,0)):=iH (by unfold qQ;rw [iF (fun h=>h hl),iT hk])
   have HSH:=iH (Y9 k o hk)
   clear hl hk
   exact m26
  rcases ho:jk o with _|_
  ·have R:Hid (qQ n k o=(10,0)):=iH (by unfold qQ;rw [iF (fun h=>h hl),iF (by rw [hk];simp),iT ho])
   have HSH:=iH (Zi k o ⟨hk,ho⟩)
   clear hl hk ho
   exact m26
  have hki:=Jc hk
  have hoi:=jD ho
  obtain⟨kn,rfl⟩:∃a:Nat,k=a:=⟨k.toNat,by omega⟩
  obtain⟨on,rfl⟩:∃a:Nat,o=a:=⟨o.toNat,by omega⟩
  have HSH:=iH (Zh kn on (by omega) (by omega) ho)
  obtain⟨z,hz,hz9,_⟩:=j5b n (by omega)
  obtain⟨p,hp4⟩:∃p,gpw 64 1 4 (z % 1073741789)=p:=⟨_,rfl⟩
  obtain⟨q,hq4⟩:∃q,gpw 64 1 on kn=q:=⟨_,rfl⟩
  have hq0:0<q/\q<2147483579:=by
   exact m2p
  have hp0:0<p:=by
   exact m12
  have hp9:p<2147483579:=by rw [<-hp4];exact XT 64 1 4 _ (by decide)
  have hq9:q<2147483579:=hq0.2
  have hG:j2k n kn on=((p*q % 2147483579:Nat):Int):=by
   exact m1a
  have HZ:=iH hz
  have HZM:Hid (zy (n.take 7) % (1073741789:Nat)=((z % 1073741789:Nat):Int)):=iH (by rw [hz];omega)
  have hpz:z % 1073741789<1073741789:=Nat.mod_lt _ (by decide)
  have hq1:=hq0.1
  rw [hq4]at HSH
  have HPW:=iH (fun w=>JA 4 (z % 1073741789) w (by omega) (by omega))
  rw [hp4]at HPW
  have HM:=iH (JX hp9 hq9)
  obtain⟨pq,hpq⟩:∃pq,p*q % 2147483579=pq:=⟨_,rfl⟩
  rw [hpq]at hG
  rw [hpq]at HM
  by_cases h1:pq=1
  ·have R:Hid (qQ n kn on=(10,0)):=iH (by unfold qQ;rw [iF (fun h=>h hl),iF (by rw [hk];simp),iF (by rw [ho];simp),hG,iT (by omega)])
   subst h1
   have hmm:=HM.out
   clear hl hk ho hki hoi hz hp4 hq4 hq0 hp0 hG hq1 hpq
   go_enter Tryz.func24,Tryz.ntmps24
   go_wp2_with(first
    |(go_at_call 61;refine iR (HPW.out w) ?_)
    |(go_at_call 62;refine(yu n (by rw [HL.out];omega) 1073741789 (by omega) (by omega) _ w HV.out).mono ?_;rw [HZM.out];rintro e w' ⟨rfl,hw'⟩;rw [hw'];clear hw' w')
    |(go_at_call 60;refine iR (HSH.out w) ?_))
   go_ret2
   rw [R.out]
   exact⟨rfl,rfl⟩
  ·have R:Hid (qQ n kn on=(0,(pq:Int))):=iH (by unfold qQ;rw [iF (fun h=>h hl),iF (by rw [hk];simp),iF (by rw [ho];simp),hG,iF (by omega)])
   have t2:((pq:Int)==1)=false:=by simp;omega
   have hmm:=HM.out
   clear hl hk ho hki hoi hz hp4 hq4 hq0 hp0 hG hq1 hpq h1
   go_enter Tryz.func24,Tryz.ntmps24
   go_wp2_with(first
    |(go_at_call 61;refine iR (HPW.out w) ?_)
    |(go_at_call 62;refine(yu n (by rw [HL.out];omega) 1073741789 (by omega) (by omega) _ w HV.out).mono ?_;rw [HZM.out];rintro e w' ⟨rfl,hw'⟩;rw [hw'];clear hw' w')
    |(go_at_call 60;refine iR (HSH.out w) ?_))
   go_ret2
   rw [R.out]
   exact⟨rfl,rfl⟩
 ·have R:Hid (qQ n k o=(2,0)):=iH (by unfold qQ;rw [iT hl])
  have t1:((n.length:Int) != 16)=true:=by simp;omega
  clear hl
  go_enter Tryz.func24,Tryz.ntmps24
  go_wp2_with fail
  go_ret2
  rw [R.out]
  exact⟨rfl,rfl⟩
end
theorem XV(n r:List UInt8)(v u:Value)(w:World)(hK:KD w)(hv:Bs w w.heap.size v n)(hu:Bs w w.heap.size u r):
 Calls Tryz.prog 27 #[v,u] w fun e w'=>e=.returned (.tuple #[.int .i64 (yG n r).2,.int .i64 (yG n r).1])/\Below w.heap.size w w':=by
 obtain⟨A,c,rfl⟩:=Bs.formL hv
 obtain⟨B,d,rfl⟩:=Bs.formL hu
 have HV:=iH hv;have HR:=iH hu;have HK:=iH hK
 clear hv hu hK
 by_cases hl:n.length=16
 ·have t1:((n.length:Int) != 16)=false:=by simp;omega
  by_cases hr:r.length=16
  ·have t2:((r.length:Int) != 16)=false:=by simp;omega
   obtain⟨z,hz,hz9,_⟩:=j5b (xz (n++r)) (by rw [je];omega)
   obtain⟨x,hx⟩:∃x:Nat,x=2+z % 2147483576:=⟨_,rfl⟩
   have hi:j63 n r=x:=by unfold j63;rw [hz];omega
   obtain⟨y,hxx⟩:∃y,x*x % 2147483579=y:=⟨_,rfl⟩
   have R:Hid (yG n r=(0,(y:Int))):=iH (by unfold yG;rw [iF (by simp [hl,hr]),hi];refine Prod.ext rfl ?_;show(x:Int)*x % 2147483579=y;omega)
   have HZ:=iH hz;have HLN:=iH hl;have HLR:=iH hr
   have HZM:Hid (zy ((xz (n++r)).take 7) % (2147483576:Nat)=((z % 2147483576:Nat):Int)):=iH (by rw [hz];omega)
   obtain⟨w1,hw1⟩:∃w1,w1=w.alloc (.cells #[.slice A n.length c,.slice B r.length d] 22):=⟨_,rfl⟩
   have HB1:Hid (Below w.heap.size w w1):=iH (by rw [hw1];exact ju _ _)
   have hh:w1.heap[w.heap.size]?=some (.cells #[.slice A n.length c,.slice B r.length d] 22 (0,0)):=by rw [hw1];exact iN
   have e:JL [(Value.slice A n.length c,n),(Value.slice B r.length d,r)]=n++r:=by simp [JL]
   have HC:=iH (KQ [(Value.slice A n.length c,n),(Value.slice B r.length d,r)] w.heap.size (·<w.heap.size) w1 22 hh (by
    intro p hp
    simp only [List.mem_cons,List.not_mem_nil,or_false]at hp
    rcases hp with rfl|rfl
    ·exact BsS.keep HV.out fun g hs hl=>⟨HB1.out.block g hl,hs⟩
    ·exact BsS.keep HR.out fun g hs hl=>⟨HB1.out.block g hl,hs⟩) (by rw [e,List.length_append];omega) (by simp))
   rw [e]at HC
   have HW1:=iH hw1
   have HMU:=iH (YL x x (by omega) (by omega) (by omega) (by omega))
   have e1:=X6 z 2147483576
   rw [hxx]at HMU
   clear hw1 hh e
   subst hx
   clear hz hl hr hi hxx
   go_enter Tryz.func27,Tryz.ntmps27
   go_wp2_with(first
   |(go_at_call 59;refine iR (HMU.out w3) ?_)
   |(go_at_call 58;refine(QW (xz (n++r)) (by rw [je];omega) _ w3 HS3.out).mono ?_;rw [HZ.out];rintro e w' ⟨rfl,hw'⟩;rw [hw'];clear hw' w')
   |(go_at_call 46;refine(Yl _ (n++r) (by have h1:=HLN.out;have h2:=HLR.out;rw [List.length_append];omega) w2 (HK.out.below HB2.out HK.out.lt) HS2.out).mono ?_;rintro e w3 ⟨v3,rfl,hs,hb⟩;have HS3:Hid (Bs w3 w3.heap.size v3 (xz (n++r))):=iH (BsS.keep hs fun g hg _=>⟨rfl,hg.2⟩);have HB3:=iH (HB2.out.trans (hb.mono HB2.out.size));clear hs hb)
   |(go_at_call 63;rw [<-HW1.out];refine HC.out.mono ?_;rintro e w2 ⟨v2,rfl,ho,hb2⟩;have HS2:Hid (Bs w2 w2.heap.size v2 (n++r)):=iH (ho.bs (by have h1:=HLN.out;have h2:=HLR.out;rw [List.length_append];omega));have HB2:Hid (Below w.heap.size w w2):=iH (HB1.out.trans (hb2.mono HB1.out.size));clear ho hb2))
   go_ret2
   rw [R.out]
   exact⟨rfl,HB3.out⟩
  ·have R:Hid (yG n r=(2,0)):=iH (by unfold yG;rw [iT (fun h=>hr h.2)])
   have t2:((r.length:Int) != 16)=true:=by simp;omega
   clear hl hr
   go_enter Tryz.func27,Tryz.ntmps27
   go_wp2_with fail
   go_ret2
   rw [R.out]
   exact⟨rfl,Below.refl _ _⟩
 ·have R:Hid (yG n r=(2,0)):=iH (by unfold yG;rw [iT (fun h=>hl h.1)])
  have t1:((n.length:Int) != 16)=true:=by simp;omega
  clear hl
  go_enter Tryz.func27,Tryz.ntmps27
  go_wp2_with fail
  go_ret2
  rw [R.out]
  exact⟨rfl,Below.refl _ _⟩
theorem Q8(n r:List UInt8)(v u:Value)(w:World)(hK:KR w)(hv:Bs w w.heap.size v n)(hu:Bs w w.heap.size u r):
 Calls Tryz.prog 28 #[v,u] w fun e w'=>e=.returned (.tuple #[.int .i64 (yG n r).2,.int .i64 (yG n r).1])/\Below w.heap.size w w':=by
 obtain⟨A,c,rfl⟩:=Bs.formL hv
 obtain⟨B,d,rfl⟩:=Bs.formL hu
 have HV:=iH hv;have HR:=iH hu;have HK:=iH hK
 clear hv hu hK
 by_cases hl:n.length=16
 ·have t1:((n.length:Int) != 16)=false:=by simp;omega
  by_cases hr:r.length=16
  ·have t2:((r.length:Int) != 16)=false:=by simp;omega
   obtain⟨z,hz,hz9,_⟩:=j5b (xz (n++r)) (by rw [je];omega)
   obtain⟨x,hx⟩:∃x:Nat,x=2+z % 2147483576:=⟨_,rfl⟩
   have hi:j63 n r=x:=by unfold j63;rw [hz];omega
   obtain⟨y,hxx⟩:∃y,x*x % 2147483579=y:=⟨_,rfl⟩
   have R:Hid (yG n r=(0,(y:Int))):=iH (by unfold yG;rw [iF (by simp [hl,hr]),hi];refine Prod.ext rfl ?_;show(x:Int)*x % 2147483579=y;omega)
   have HZ:=iH hz;have HLN:=iH hl;have HLR:=iH hr
   have HZM:Hid (zy ((xz (n++r)).take 7) % (2147483576:Nat)=((z % 2147483576:Nat):Int)):=iH (by rw [hz];omega)
   have HM:=iH (JX (show x<2147483579 by omega) (show x<2147483579 by omega))
   rw [hxx,hx]at HM
   subst hx
   clear hz hl hr hi hxx
   go_enter Tryz.func28,Tryz.ntmps28
   go_wp2_with(first
   |(go_at_call 62;refine(yu (xz (n++r)) (by rw [je];omega) 2147483576 (by omega) (by omega) _ w3 HS3.out).mono ?_;rw [HZM.out];rintro e w' ⟨rfl,hw'⟩;rw [hw'];clear hw' w')
   |(go_at_call 49;refine(yx _ (n++r) (by have h1:=HLN.out;have h2:=HLR.out;rw [List.length_append];omega) w2 (HK.out.below HB2.out HK.out.lt) HS2.out).mono ?_;rintro e w3 ⟨v3,rfl,hs,hb⟩;have HS3:Hid (Bs w3 w3.heap.size v3 (xz (n++r))):=iH (BsS.keep hs fun g hg _=>⟨rfl,hg.2⟩);have HB3:=iH (HB2.out.trans (hb.mono HB2.out.size));clear hs hb)
   |(go_at_call 64;refine(Jt _ _ n r _ _ w HV.out HR.out (by have h1:=HLN.out;have h2:=HLR.out;omega)).mono ?_;rintro e w2 ⟨v2,rfl,ho,hb2⟩;have HS2:Hid (Bs w2 w2.heap.size v2 (n++r)):=iH (ho.bs (by have h1:=HLN.out;have h2:=HLR.out;rw [List.length_append];omega));have HB2:Hid (Below w.heap.size w w2):=iH hb2;clear ho hb2))
   go_ret2
   rw [R.out]
   refine⟨?_,HB3.out⟩
   have e:=HM.out
   rw [show(((2+z % 2147483576:Nat)):Int)=2+(z:Int) % 2147483576 by omega]at e
   show Ending.returned (.tuple #[.int .i64 ((wrap64 ((2+(z:Int) % 2147483576)*(2+(z:Int) % 2147483576))).tmod 2147483579),.int .i64 0])=_
   rw [e]
  ·have R:Hid (yG n r=(2,0)):=iH (by unfold yG;rw [iT (fun h=>hr h.2)])
   have t2:((r.length:Int) != 16)=true:=by simp;omega
   clear hl hr
   go_enter Tryz.func28,Tryz.ntmps28
   go_wp2_with fail
   go_ret2
   rw [R.out]
   exact⟨rfl,Below.refl _ _⟩
 ·have R:Hid (yG n r=(2,0)):=iH (by unfold yG;rw [iT (fun h=>hl h.1)])
  have t1:((n.length:Int) != 16)=true:=by simp;omega
  clear hl
  go_enter Tryz.func28,Tryz.ntmps28
  go_wp2_with fail
  go_ret2
  rw [R.out]
  exact⟨rfl,Below.refl _ _⟩
section
variable(P:Nat)(X:Exg)(sA nA aA bA:Option Addr)(sc nc ac bc:Nat)(vA eA:Option Addr)(vc ec:Nat)(v s:List UInt8)(w:World)(hK:∀W,Below P w W->KD W)(hr:w.heap[P]?=some (.cells #[.int .i64 X.kd,.slice sA X.sec.length sc,.int .i64 X.pr,.int .i64 X.st,.slice nA X.non.length nc,.int .i64 X.x,.int .i64 X.g,.int .i64 X.own,.int .i64 X.oth,.slice aA X.k1.length ac,.slice bA X.k2.length bc,.int .i64 X.ct] 48 (0,0)))(h1:BsS w (j7 P w) (.slice sA X.sec.length sc) X.sec)(h2:BsS w (j7 P w) (.slice nA X.non.length nc) X.non)(h3:BsS w (j7 P w) (.slice aA X.k1.length ac) X.k1)(h4:BsS w (j7 P w) (.slice bA X.k2.length bc) X.k2)(h5:BsS w (j7 P w) (.slice vA v.length vc) v)(h6:BsS w (j7 P w) (.slice eA s.length ec) s)(hl:s.length<=140737488351232)
include P X sA nA aA bA sc nc ac bc vA eA vc ec v s w hK hr h1 h2 h3 h4 h5 h6 hl
theorem Vy:
 Calls Tryz.prog 89 #[.pointer (some ⟨P,0,none⟩),.slice vA v.length vc,.slice eA s.length ec] w (yI P w (-1) X [] s):=by
 have HP0:Hid (PtW P w w #[.int .i64 X.kd,.slice sA X.sec.length sc,.int .i64 X.pr,.int .i64 X.st,.slice nA X.non.length nc,.int .i64 X.x,.int .i64 X.g,.int .i64 X.own,.int .i64 X.oth,.slice aA X.k1.length ac,.slice bA X.k2.length bc,.int .i64 X.ct]):=iH (PtW.start hr)
 have HK:=iH hK;have Gs0:=iH h1;have Gn0:=iH h2;have Ga0:=iH h3;have Gb0:=iH h4;have Gv0:=iH h5;have Ge0:=iH h6;have HL:=iH hl
 obtain⟨f0,f1,f2,f3,f4,f5,f6,f7,f8,f9,f10,f11,ff⟩:=j4 hr
 clear hK hr h1 h2 h3 h4 h5 h6 hl
 go_enter Tryz.func89,Tryz.ntmps89
 go_wp2_with(go_at_call 67;refine(jr _ s w Ge0.out.loB).mono ?_;rintro e w1 ⟨v2,rfl,ho,hb⟩;obtain⟨cA,cc,hv2⟩:=OwnB.form ho;subst hv2;have HC:Hid (BsS w1 (j7 P w1) (.slice cA s.length cc) s):=iH (BsS.madeB (OwnB.out ho (by have:=HL.out;omega) w iL) HP0.out.lt);have Gs1:=iH (Gs0.out.onB hb);have Gn1:=iH (Gn0.out.onB hb);have Ga1:=iH (Ga0.out.onB hb);have Gb1:=iH (Gb0.out.onB hb);have Gv1:=iH (Gv0.out.onB hb);have Ge1:=iH (Ge0.out.onB hb);have hp:=HP0.out.call hb;have HP1:=iH hp;obtain⟨g0,g1,g2,g3,g4,g5,g6,g7,g8,g9,g10,g11,gf⟩:=j4 hp.1;clear hp f0 f1 f2 f3 f4 f5 f6 f7 f8 f9 f10 f11 ff;clear ho hb)
 refine bodyPost_ret (v:=.tuple #[.int .i64 (-1),.slice none 0 0,.slice cA s.length cc,.int .i64 0]) (by simp [results,Tryz.results89,go_sem]) rfl ?_
 exact⟨_,_,_,_,rfl,⟨_,_,_,_,_,_,_,_,HP1.out,Gs1.out,Gn1.out,Ga1.out,Gb1.out⟩,kH _ _,HC.out⟩
theorem yg(hp:vPw X.kd X.sec=true):
 Calls Tryz.prog 71 #[.pointer (some ⟨P,0,none⟩),.slice vA v.length vc,.slice eA s.length ec] w (yI P w 128 {X with non:=js s 16} (qn X.kd X.sec (js s 16)).2 (sdW s)):=by
 obtain⟨N,hN⟩:∃N,js s 16=N:=⟨_,rfl⟩
 have hl16:N.length=16:=by rw [<-hN];unfold js;rw [List.length_take,je];omega
 rw [hN]
 have HD:=iH (QB 16 (by omega) (by omega) _ s w (hK w iB) h6.loB (by omega))
 rw [hN]at HD
 obtain⟨H,hH⟩:∃H,qn X.kd X.sec N=(0,H):=⟨_,by unfold qn;rw [iF (by rw [hp];simp),iF (by omega)]⟩
 have HH:Hid (∀(A:Option Addr) (c:Nat) (W:World),KD W->Bs W W.heap.size (.slice sA X.sec.length sc) X.sec->Bs W W.heap.size (.slice A 16 c) N->Calls Tryz.prog 18 #[.agg #[.int .i64 X.kd,.slice sA X.sec.length sc],.slice A 16 c] W (EB (0,H) W)):=iH (fun A c W k a b=>by
  have h:=j2u X.kd X.sec sA sc N A c W k a (by rw [hl16];exact b)
  rw [hl16,hH]at h
  exact h)
 rw [hH]
 have HL16:=iH hl16
 clear hN hH hp hl16
 have HP0:Hid (PtW P w w #[.int .i64 X.kd,.slice sA X.sec.length sc,.int .i64 X.pr,.int .i64 X.st,.slice nA X.non.length nc,.int .i64 X.x,.int .i64 X.g,.int .i64 X.own,.int .i64 X.oth,.slice aA X.k1.length ac,.slice bA X.k2.length bc,.int .i64 X.ct]):=iH (PtW.start hr)
 have HK:=iH hK;have Gs0:=iH h1;have Gn0:=iH h2;have Ga0:=iH h3;have Gb0:=iH h4;have Gv0:=iH h5;have Ge0:=iH h6;have HL:=iH hl
 obtain⟨f0,f1,f2,f3,f4,f5,f6,f7,f8,f9,f10,f11,ff⟩:=j4 hr
 clear hK hr h1 h2 h3 h4 h5 h6 hl
 go_enter Tryz.func71,Tryz.ntmps71
 go_upto_region 2 with (go_at_call 125;refine HD.out.mono ?_;rintro e w1 ⟨A1,c1,B1,d1,rfl,ha,hb,hbw⟩;have GN1:=iH (ha.madeB HP0.out.lt);have GX1:=iH (hb.madeB HP0.out.lt);have Gs1:=iH (Gs0.out.onB hbw);have Gn1:=iH (Gn0.out.onB hbw);have Ga1:=iH (Ga0.out.onB hbw);have Gb1:=iH (Gb0.out.onB hbw);have Gv1:=iH (Gv0.out.onB hbw);have Ge1:=iH (Ge0.out.onB hbw);have hp:=HP0.out.call hbw;have HP1:=iH hp;obtain⟨g0,g1,g2,g3,g4,g5,g6,g7,g8,g9,g10,g11,gf⟩:=j4 hp.1;clear hp f0 f1 f2 f3 f4 f5 f6 f7 f8 f9 f10 f11 ff;clear ha hb hbw)
 have gx:=gf 4
 clear gf
 go_upto_region 3 with fail
 obtain⟨w2,hw⟩:∃z,z=w1.setCell ⟨P,4,none⟩ (.slice A1 16 c1):=⟨_,rfl⟩
 rw [<-hw]
 have hp:PtW P w w2 #[.int .i64 X.kd,.slice sA X.sec.length sc,.int .i64 X.pr,.int .i64 X.st,.slice A1 16 c1,.int .i64 X.x,.int .i64 X.g,.int .i64 X.own,.int .i64 X.oth,.slice aA X.k1.length ac,.slice bA X.k2.length bc,.int .i64 X.ct]:=by rw [hw];exact HP1.out.set 4 _
 have Gs2:Hid (BsS w2 (j7 P w2) _ _):=iH (by rw [hw];exact BsS.setP Gs1.out 4 _)
 have Gn2:Hid (BsS w2 (j7 P w2) _ _):=iH (by rw [hw];exact BsS.setP Gn1.out 4 _)
 have Ga2:Hid (BsS w2 (j7 P w2) _ _):=iH (by rw [hw];exact BsS.setP Ga1.out 4 _)
 have Gb2:Hid (BsS w2 (j7 P w2) _ _):=iH (by rw [hw];exact BsS.setP Gb1.out 4 _)
 have Gv2:Hid (BsS w2 (j7 P w2) _ _):=iH (by rw [hw];exact BsS.setP Gv1.out 4 _)
 have Ge2:Hid (BsS w2 (j7 P w2) _ _):=iH (by rw [hw];exact BsS.setP Ge1.out 4 _)
 have GN2:Hid (BsS w2 (j7 P w2) _ _):=iH (by rw [hw];exact BsS.setP GN1.out 4 _)
 have GX2:Hid (BsS w2 (j7 P w2) _ _):=iH (by rw [hw];exact BsS.setP GX1.out 4 _)
 have HP2:=iH hp
 obtain⟨f0,f1,f2,f3,f4,f5,f6,f7,f8,f9,f10,f11,ff⟩:=j4 hp.1
 clear hw hp g0 g1 g2 g3 g4 g5 g6 g7 g8 g9 g10 g11 gx
 go_wp2_with(go_at_call 18;refine(HH.out A1 c1 w2 (HK.out w2 HP2.out.2.2) Gs2.out.loB GN2.out.loB).mono ?_;rintro e w3 ⟨v3,rfl,hs,hb⟩;obtain⟨A3,c3,hv3⟩:=Bs.formL hs;subst hv3;have GH:=iH (hs.madeB HP2.out.lt);have Gs3:=iH (Gs2.out.onB hb);have Gn3:=iH (Gn2.out.onB hb);have Ga3:=iH (Ga2.out.onB hb);have Gb3:=iH (Gb2.out.onB hb);have Gv3:=iH (Gv2.out.onB hb);have Ge3:=iH (Ge2.out.onB hb);have GN3:=iH (GN2.out.onB hb);have GX3:=iH (GX2.out.onB hb);have hp:=HP2.out.call hb;have HP3:=iH hp;obtain⟨g0,g1,g2,g3,g4,g5,g6,g7,g8,g9,g10,g11,gf⟩:=j4 hp.1;clear hp f0 f1 f2 f3 f4 f5 f6 f7 f8 f9 f10 f11 ff;clear hs hb)
 refine bodyPost_ret (v:=.tuple #[.int .i64 128,.slice A3 H.length c3,.slice B1 32 d1,.int .i64 0]) (by simp [results,Tryz.results71,go_sem]) rfl ?_
 have q3:=HP3.out
 rw [<-HL16.out]at q3
 have n3:BsS w3 (j7 P w3) (.slice A1 N.length c1) N:=by rw [HL16.out];exact GN3.out
 have hx:(sdW s).length=32:=je _
 have x3:BsS w3 (j7 P w3) (.slice B1 (sdW s).length d1) (sdW s):=by rw [hx];exact GX3.out
 exact⟨_,_,B1,d1,by rw [hx],⟨_,_,_,_,_,_,_,_,q3,Gs3.out,n3,Ga3.out,Gb3.out⟩,GH.out,x3⟩
end
theorem kR(x:Int)(h:jk x=true)(w:World):Calls Tryz.prog 129 #[.int .i64 x] w fun e w'=>∃A c,e=.returned (.slice A 4 c)/\BsS w' (New w w') (.slice A 4 c) (jc x)/\Below w.heap.size w w':=by
 have H:=iH (XN x h w)
 clear h
 go_enter Tryz.func129,Tryz.ntmps129
 go_wp2_with(go_at_call 162;refine H.out.mono ?_;rintro e w1 ⟨v1,rfl,ho,hb⟩;obtain⟨A1,c1,hv1⟩:=ho.form;have hv1:v1=.slice A1 4 c1:=hv1;subst hv1;have HS:=iH (OwnB.out ho (by simp [jc]) w iL);have HB:=iH hb;clear ho hb)
 go_ret
 exact⟨_,_,rfl,HS.out,HB.out⟩
end Go.Proofs.YtalmmiojbmpmiaaGreatDoor
