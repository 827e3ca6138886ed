/- Layer 2: the walk of Encode; Layer 2: the reader behind its pointer, and the walk of its tag -/
import Derived.Test.YtadndhgebgjlaaaGreatPm
set_option linter.all false
set_option maxRecDepth 100000
set_option maxHeartbeats 1000000
namespace Go.Proofs.YtadndhgebgjlaaaGreat
open Go.RowKit Go.Deep
theorem mv{P:Prop}(h:P:=by
 go_ret2
 exact NumOut.no E.out _ ((HR.out.drewN nq).at_ (a+1) _ (by omega)) (jb (jA (World.grownBy.refl w _) nq) (.inl rfl) _)):P:=h
theorem mZ{P:Prop}(h:P:=by
 go_ret2
 exact NumOut.yes E.out ((HR.out.drewN nq).at_ (a+1) _ (by omega)) (jb (jA (World.grownBy.refl w _) nq) (.inl rfl) _)):P:=h
theorem m0z{P:Prop}(h:P:=by
 have h1:(BitVec.ofInt 64 ((n*256:Nat):Int)).toNat=n*256:=by
  rw [BitVec.ofInt_natCast,BitVec.toNat_ofNat];exact Nat.mod_eq_of_lt (by omega)
 have h2:(BitVec.ofInt 64 (b:Int)).toNat=b:=by
  rw [BitVec.ofInt_natCast,BitVec.toNat_ofNat];exact Nat.mod_eq_of_lt (by omega)
 have h3:n*256 ||| b=n*256+b:=by
  have:=Nat.two_pow_add_eq_or_of_lt (i:=8) (b:=b) (by omega) n
  rw [Nat.mul_comm]at this
  exact this.symm
 have e:(n:Int)*256=((n*256:Nat):Int):=by omega
 rw [e]
 show IntKind.i64.wrap ((BitVec.ofInt 64 ((n*256:Nat):Int) ||| BitVec.ofInt 64 (b:Int)).toNat:Int)=_
 rw [BitVec.toNat_or,h1,h2,h3,IntKind.wrap_i64]
 omega):P:=h
theorem m3h{P:Prop}(h:P:=by
 injection hv with e3 _ _
 rw [<-e3]at e1
 injection e1 with e1
 injection e1 with e1 _ _
 rw [e1];exact e2):P:=h
theorem m3v{P:Prop}(h:P:=by
 go_wp2_with fail
 go_ret2
 exact NumOut.no E.out _ HR.out (World.grownBy.refl w _)):P:=h
def jV{α:Type}:Except Int α->Int
 |.error e=>e
 |.ok _=>0
def bytesOf:Except Int (List UInt8)->List UInt8
 |.error _=>[]
 |.ok l=>l
def BytesOut(r:Except Int (List UInt8))(w:World)(e:Ending)(w':World):Prop:=
 ∃v',e=.returned (.tuple #[v',.int .i64 (jV r)])/\BsS w' (New w w') v' (bytesOf r)/\Below w.heap.size w w'
theorem BytesOut.no{w w':World}{r:Except Int (List UInt8)}{e:Int}(hr:r=.error e)(hb:Below w.heap.size w w'):BytesOut r w (.returned (.tuple #[.slice none 0 0,.int .i64 e])) w':=by
 subst hr
 exact⟨_,rfl,⟨none,0,rfl,by simp [bytesOf],by simp,by simp [bytesOf],by simp [bytesOf]⟩,hb⟩
theorem BytesOut.yes{w w':World}{r:Except Int (List UInt8)}{l:List UInt8}{v:Value}(hr:r=.ok l)(hv:BsS w' (New w w') v l)(hb:Below w.heap.size w w'):BytesOut r w (.returned (.tuple #[v,.int .i64 0])) w':=by
 subst hr
 exact⟨_,rfl,hv,hb⟩
theorem yR(L:Ns)(v:Value)(w:World)(hv:NsS w (·<w.heap.size) v L)(ha:L.all<=100000000000)(hl:L.enc.length<=1000000000000):
 Calls Tryz.prog 84 #[v] w (BytesOut (qG L) w):=by
 have hv2:NsS (w.alloc (.cells #[.int .i64 0] 3)) (fun b=>b<(w.alloc (.cells #[.int .i64 0] 3)).heap.size/\b≠w.heap.size) v L:=
  hv.keep fun b hs hl=>⟨Below.heap_alloc _ _ _ hl,by simp;omega,by omega⟩
 have hc:=Vg L.all L v 1 0 w.heap.size (w.alloc (.cells #[.int .i64 0] 3)) iL hv2 (by omega) (by omega) (by omega) (iN)
 by_cases h1:L.chk 1=0
 ·rw [h1]at hc
  have Hc:=iH hc;have Hv:=iH hv
  obtain⟨a,c,rfl,hx⟩:=hv
  have Hw:∀w',(w.alloc (.cells #[.int .i64 0] 3)).grownBy w' (some w.heap.size)->Hid (Calls Tryz.prog 111 #[.slice a L.len c] w' fun e w''=>∃v',e=.returned v'/\BsS w'' (New w' w'') v' L.enc/\Below w'.heap.size w' w''):=fun w' hg=>
   j1i L.all L (.slice a L.len c) w' iL (Hv.out.keep fun b hs hl=>⟨(hg.block b (by simp;omega) (by intro e;injection e;omega)).trans (Below.heap_alloc _ _ _ hl),by have:=hg.size;simp at this;omega⟩) hl
  have hB:∀w',(w.alloc (.cells #[.int .i64 0] 3)).grownBy w' (some w.heap.size)->Below w.heap.size w w':=fun w' hg=>
   (iA).trans (j9 hg (by simp) iL)
  have HB:=iH hB
  clear hc hv2 hx hB
  by_cases h2:256<L.all
  ·have E:Hid (qG L=.error 2):=by unfold qG;rw [iF (by simpa using h1),iT h2]<;>rfl
   clear h1 Hw
   go_enter Tryz.func84,Tryz.ntmps84
   go_wp2_with(go_at_call 110;refine Hc.out.mono ?_;rintro e w1 ⟨rfl,⟨⟨cc,hb,hcc⟩,hg⟩⟩;have hcd:=hcc rfl;clear hcc;obtain rfl:cc=(L.all:Int):=(by omega);clear hcd;have Hg:=iH hg;have c1:=hb.cell;clear hg hb)
   go_ret2
   exact BytesOut.no E.out (HB.out _ Hg.out)
  ·by_cases h3:4096<L.enc.length
   ·have E:Hid (qG L=.error 2):=by unfold qG;rw [iF (by simpa using h1),iF h2,iT h3]<;>rfl
    clear h1
    go_enter Tryz.func84,Tryz.ntmps84
    go_wp2_with(first|(go_at_call 110;refine Hc.out.mono ?_;rintro e w1 ⟨rfl,⟨⟨cc,hb,hcc⟩,hg⟩⟩;have hcd:=hcc rfl;clear hcc;obtain rfl:cc=(L.all:Int):=(by omega);clear hcd;have Hg:=iH hg;have c1:=hb.cell;clear hg hb)|(go_at_call 111;refine(Hw _ Hg.out).out.mono ?_;rintro e w2 ⟨v2,rfl,hv2,hb2⟩;obtain⟨a2,c2,rfl⟩:=hv2.form2;have Hv2:=iH hv2;have Hb2:=iH hb2;clear hv2 hb2))
    go_ret2
    exact BytesOut.no E.out ((HB.out _ Hg.out).trans (Hb2.out.mono (HB.out _ Hg.out).size))
   ·have E:Hid (qG L=.ok L.enc):=by unfold qG;rw [iF (by simpa using h1),iF h2,iF h3]<;>rfl
    clear h1
    go_enter Tryz.func84,Tryz.ntmps84
    go_wp2_with(first|(go_at_call 110;refine Hc.out.mono ?_;rintro e w1 ⟨rfl,⟨⟨cc,hb,hcc⟩,hg⟩⟩;have hcd:=hcc rfl;clear hcc;obtain rfl:cc=(L.all:Int):=(by omega);clear hcd;have Hg:=iH hg;have c1:=hb.cell;clear hg hb)|(go_at_call 111;refine(Hw _ Hg.out).out.mono ?_;rintro e w2 ⟨v2,rfl,hv2,hb2⟩;obtain⟨a2,c2,rfl⟩:=hv2.form2;have Hv2:=iH hv2;have Hb2:=iH hb2;clear hv2 hb2))
    go_ret2
    exact BytesOut.yes E.out (Hv2.out.keep fun b hs _=>⟨rfl,Nat.le_trans (HB.out _ Hg.out).size hs.1,hs.2⟩) ((HB.out _ Hg.out).trans (Hb2.out.mono (HB.out _ Hg.out).size))
 ·have Hc:=iH hc
  have E:Hid (qG L=.error (L.chk 1)):=by unfold qG;rw [iT h1]<;>rfl
  have n0:((L.chk 1) != 0)=true:=by simp [h1]
  obtain⟨a,c,rfl,hx⟩:=hv
  clear hx hv2 hc h1
  go_enter Tryz.func84,Tryz.ntmps84
  go_wp2_with(go_at_call 110;refine Hc.out.mono ?_;rintro e w1 ⟨rfl,⟨_,hg⟩⟩;have Hg:=iH hg;clear hg)
  go_ret2
  exact BytesOut.no E.out ((iA).trans (j9 Hg.out (by simp) iL))
theorem j06(n b:Nat)(hn:n<1099511627776)(hb:b<256):bits .or .i64 ((n:Int)*256) (b:Int)=(n:Int)*256+b:=by
 exact m0z
def rst(B:List UInt8)(a e:Nat):List UInt8:=(B.take e).drop a
theorem jx{B:List UInt8}{a e:Nat}(h:e<=B.length):(rst B a e).length=e - a:=by simp [rst];omega
theorem Je{B:List UInt8}{a e j:Nat}(h:e<=B.length)(hj:a+j<e):gb (rst B a e) j=gb B (a+j):=by
 have h1:a+j<B.length:=by omega
 unfold gb rst
 rw [List.getD_eq_getElem?_getD,List.getD_eq_getElem?_getD,List.getElem?_drop,List.getElem?_take,iT hj]
theorem jM(B:List UInt8)(a e k:Nat):(rst B a e).drop k=rst B (a+k) e:=by simp [rst,List.drop_drop]
theorem yy(B:List UInt8)(a e n:Nat)(h:a+n<=e):(rst B a e).take n=rst B a (a+n):=by
 unfold rst
 rw [List.take_drop,List.take_take,Nat.min_eq_left h]
abbrev Rd(w:World)(p:Nat)(bv:Value)(at_:Nat)(st:Bool)(cnt:Nat):Prop:=w.heap[p]?=some (.cells #[bv,.int .i64 at_,.bool st,.int .i64 cnt] 131 (0,0))
section
variable{w:World}{p:Nat}{bv:Value}{a:Nat}{st:Bool}{c:Nat}(h:Rd w p bv a st c)
include w p bv a st c h
theorem Rd.lt:p<w.heap.size:=(iG h)
theorem Rd.c0:w.cell? ⟨p,0,none⟩=some bv:=by rw [cell_of_row _ _ _ _ _ _ h]<;>rfl
theorem Rd.c1:w.cell? ⟨p,1,none⟩=some (.int .i64 a):=by rw [cell_of_row _ _ _ _ _ _ h]<;>rfl
theorem Rd.c2:w.cell? ⟨p,2,none⟩=some (.bool st):=by rw [cell_of_row _ _ _ _ _ _ h]<;>rfl
theorem Rd.c3:w.cell? ⟨p,3,none⟩=some (.int .i64 c):=by rw [cell_of_row _ _ _ _ _ _ h]<;>rfl
theorem Rd.fr(o:Nat):w.frozen? ⟨p,o,none⟩=false:=by simp [World.frozen?,h]
end
theorem xY{w:World}{g i:Nat}{cs:Array Value}{t:TypeId}(h:w.heap[g]?=some (.cells cs t (0,0)))(v:Value):(w.setCell ⟨g,i,none⟩ v).heap[g]?=some (.cells (cs.setIfInBounds i v) t (0,0)):=by
 have hlt:g<w.heap.size:=(iG h)
 have h':w.heap[g]=.cells cs t (0,0):=by simpa [Array.getElem?_eq_getElem hlt]using h
 show(w.heap.modify g _)[g]?=_
 rw [Array.getElem?_eq_getElem (by simpa using hlt),Array.getElem_modify_self,h']
 rfl
section
variable{w:World}{p:Nat}{bv:Value}{a:Nat}{st:Bool}{c:Nat}(h:Rd w p bv a st c)(n:Nat)
include w p bv a st c h n
theorem Rd.at_(z:Int)(hz:z=n):Rd (w.setCell ⟨p,1,none⟩ (.int .i64 z)) p bv n st c:=by
 subst hz;exact xY h _
theorem Rd.cnt(z:Int)(hz:z=n):Rd (w.setCell ⟨p,3,none⟩ (.int .i64 z)) p bv a st n:=by
 subst hz;exact xY h _
theorem Rd.drewN:Rd (w.drewN n) p bv a st c:=h
end
def j7x:Except Int (Int×Nat)->Int
 |.error _=>0
 |.ok x=>x.1
def NumOut(r:Except Int (Int×Nat))(w:World)(p:Nat)(bv:Value)(a:Nat)(st:Bool)(c:Nat)(e:Ending)(w':World):Prop:=
 e=.returned (.tuple #[.int .i64 (j7x r),.int .i64 (jV r)])/\(∃a',Rd w' p bv a' st c/\∀x,r=.ok x->a'=a+x.2)/\w.grownBy w' (some p)
section
variable{w w':World}{p:Nat}{bv:Value}{a:Nat}{st:Bool}{c:Nat}{r:Except Int (Int×Nat)}
include w w' p bv a st c r
theorem NumOut.no{er:Int}(hr:r=.error er)(a':Nat)(h:Rd w' p bv a' st c)(hg:w.grownBy w' (some p)):
 NumOut r w p bv a st c (.returned (.tuple #[.int .i64 0,.int .i64 er])) w':=by
 subst hr;exact⟨rfl,⟨a',h,fun x hx=>by cases hx⟩,hg⟩
theorem NumOut.yes{n:Int}{k:Nat}(hr:r=.ok (n,k))(h:Rd w' p bv (a+k) st c)(hg:w.grownBy w' (some p)):
 NumOut r w p bv a st c (.returned (.tuple #[.int .i64 n,.int .i64 0])) w':=by
 subst hr;exact⟨rfl,⟨_,h,fun x hx=>by injection hx with hx;subst hx;rfl⟩,hg⟩
end
theorem BsS.cellAt{w:World}{S:Nat->Prop}{A:Option Addr}{n k:Nat}{l:List UInt8}(h:BsS w S (.slice A n k) l){b off:Nat}(hA:A=some ⟨b,off,none⟩){j:Nat}(hj:j<l.length):w.cell? ⟨b,off+j,none⟩=some (U8 (gb l j)):=by
 obtain⟨a,c,hv,_,_,_,h4⟩:=h
 injection hv with e _ _
 obtain⟨b',off',e',_,hc⟩:=h4 (by omega)
 rw [<-e,hA]at e'
 injection e' with e'
 injection e' with e1 e2 _
 rw [e1,e2]
 exact hc j hj
theorem QN(B:List UInt8)(bb bo bc p a e cnt:Nat)(st:Bool)(w:World)(hB:BsS w (·≠p) (.slice (some ⟨bb,bo,none⟩) B.length bc) B)(he:e<=B.length)(hr:Rd w p (.slice (some ⟨bb,bo,none⟩) B.length bc) a st cnt)(ha:a<=e):
 Calls Tryz.prog 144 #[.pointer (some ⟨p,0,none⟩),.int .i64 e] w (NumOut (qg (rst B a e)) w p (.slice (some ⟨bb,bo,none⟩) B.length bc) a st cnt):=by
 have c0:=hr.c0;have c1:=hr.c1
 have hfz:=hr.fr 1
 have hlen:=hB.len
 have HR:=iH hr;have HB:=iH hB
 clear hr hB
 by_cases h0:a=e
 ·subst h0
  have E:Hid (qg (rst B a a)=.error 6):=by unfold qg;rw [iT (by rw [jx he];omega)]<;>rfl
  go_enter Tryz.func144,Tryz.ntmps144
  exact m3v
 ·have hlt:a<e:=by omega
  have d0:decide ((a:Int)>=e)=false:=by simp;omega
  have hl:a<B.length:=by omega
  have q1:=HB.out.cellAt rfl hl
  have b1:(0:Int)<=a:=by omega
  have b2:(a:Int)<B.length:=by omega
  have g0:gb (rst B a e) 0=gb B a:=Je he (by omega)
  have L:=iH (fun w=>Qq (bv (gb B a)) (jU _) (by have:=jX (gb B a);omega) w)
  have V:=iH (fun t ht w=>Ks t ht w)
  by_cases h1:bv (gb B a) % 32=31
  ·have h1':(bv (gb B a) % 32==31)=true:=by simpa using h1
   rw [h1']at L
   by_cases h2:a+1=e
   ·have E:Hid (qg (rst B a e)=.error 6):=by unfold qg;rw [iF (by rw [jx he];omega),g0,iT h1,iT (by rw [jx he];omega)]<;>rfl
    have h2:e=a+1:=h2.symm
    subst h2
    clear h0 h1 h1' g0
    go_enter Tryz.func144,Tryz.ntmps144
    go_wp2_with fail
    go_quiet (fail)
    go_wp2_with(go_at_call 142;refine(L.out _).mono ?_;rintro e w' ⟨rfl,rfl⟩)
    exact mv
   ·have hlt2:a+1<e:=by omega
    have hl2:a+1<B.length:=by omega
    have q2:=HB.out.cellAt rfl hl2
    have hbp:bb≠p:=by
     obtain⟨_,_,hv,_,_,_,h4⟩:=HB.out
     obtain⟨_,_,e1,e2,_⟩:=h4 (by omega)
     exact m3h
    have g1:gb (rst B a e) 1=gb B (a+1):=Je he (by omega)
    obtain⟨x,hx⟩:∃x:Nat,x=(gb B a).toNat:=⟨_,rfl⟩
    obtain⟨y,hy⟩:∃y:Nat,y=(gb B (a+1)).toNat:=⟨_,rfl⟩
    have ex:bv (gb B a)=x:=by rw [hx]<;>rfl
    have ey:bv (gb B (a+1))=y:=by rw [hy]<;>rfl
    have hxl:x<256:=by rw [hx];exact UInt8.toNat_lt _
    have hyl:y<256:=by rw [hy];exact UInt8.toNat_lt _
    have o1:=j06 x y (by omega) hyl
    have E:Hid (qg (rst B a e)=if qX ((x:Int)*256+y)=true then .ok ((x:Int)*256+y,2)else .error 4):=by
     unfold qg;rw [iF (by rw [jx he];omega),g0,g1,iT h1,iF (by rw [jx he];omega),ex,ey,Int.mul_comm]<;>rfl
    change w.cell? _=some (.int .u8 (bv (gb B a)))at q1
    change w.cell? _=some (.int .u8 (bv (gb B (a+1))))at q2
    rw [ex]at L q1
    rw [ey]at q2
    clear h0 h1 h1' g0 hx hy h2 ex ey g1
    go_enter Tryz.func144,Tryz.ntmps144
    go_wp2_with fail
    go_quiet (fail)
    go_wp2_with(go_at_call 142;refine(L.out _).mono ?_;rintro e w' ⟨rfl,rfl⟩)
    have HR1:=iH ((HR.out.drewN nq).at_ (a+1) ((a:Int)+1) (by omega))
    have HG1:=iH (jb (jA (World.grownBy.refl w (some p)) nq) (.inl rfl) (p:=⟨p,1,none⟩) (.int .i64 ((a:Int)+1)))
    have q3:((w.drewN nq).setCell ⟨p,1,none⟩ (.int .i64 ((a:Int)+1))).cell? ⟨bb,bo+(a+1),none⟩=some (.int .u8 y):=(World.cell?_of_block (w:=w) (by rw [iO hbp]<;>rfl)).trans q2
    obtain⟨w1,hw1⟩:∃w1,w1=(w.drewN nq).setCell ⟨p,1,none⟩ (.int .i64 ((a:Int)+1)):=⟨_,rfl⟩
    rw [<-hw1]at HR1 HG1 q3 |-
    clear q2 c0 c1 hfz q1 hw1 L
    have c0:=HR1.out.c0
    have c1:=HR1.out.c1
    have hfz:=HR1.out.fr 1
    have b3:(0:Int)<=(a:Int)+1:=by omega
    have b4:(a:Int)+1<B.length:=by omega
    have V:=iH (fun w=>V.out ((x:Int)*256+y) ⟨by omega,by omega⟩ w)
    cases et:qX ((x:Int)*256+y)with
    |false=>
     have E:Hid (qg (rst B a e)=.error 4):=by rw [E.out,iF (by rw [et];decide)]<;>rfl
     rw [et]at V
     clear et
     go_quiet (fail)
     go_wp2_with(go_at_call 134;refine(V.out _).mono ?_;rintro e w' ⟨rfl,rfl⟩)
     go_ret2
     exact NumOut.no E.out _ ((HR1.out.drewN nq).at_ (a+1+1) _ (by omega)) (jb (jA HG1.out nq) (.inl rfl) _)
    |true=>
     have E:Hid (qg (rst B a e)=.ok ((x:Int)*256+y,2)):=by rw [E.out,iT et]<;>rfl
     rw [et]at V
     clear et
     go_quiet (fail)
     go_wp2_with(go_at_call 134;refine(V.out _).mono ?_;rintro e w' ⟨rfl,rfl⟩)
     go_ret2
     exact NumOut.yes E.out ((HR1.out.drewN nq).at_ (a+2) _ (by omega)) (jb (jA HG1.out nq) (.inl rfl) _)
  ·have h1':(bv (gb B a) % 32==31)=false:=by simpa using h1
   rw [h1']at L
   have V:=iH (fun w=>V.out (bv (gb B a)) ⟨by have:=jU (gb B a);omega,by have:=jX (gb B a);omega⟩ w)
   cases et:qX (bv (gb B a))with
   |false=>
    have E:Hid (qg (rst B a e)=.error 4):=by unfold qg;rw [iF (by rw [jx he];omega),g0,iF h1,iF (by rw [et];decide)]<;>rfl
    rw [et]at V
    clear h0 h1 h1' g0 et
    go_enter Tryz.func144,Tryz.ntmps144
    go_wp2_with fail
    go_quiet (fail)
    go_wp2_with(first|(go_at_call 142;refine(L.out _).mono ?_;rintro e w' ⟨rfl,rfl⟩)|(go_at_call 134;refine(V.out _).mono ?_;rintro e w' ⟨rfl,rfl⟩))
    exact mv
   |true=>
    have E:Hid (qg (rst B a e)=.ok (bv (gb B a),1)):=by unfold qg;rw [iF (by rw [jx he];omega),g0,iF h1,iT et]<;>rfl
    rw [et]at V
    clear h0 h1 h1' g0 et
    go_enter Tryz.func144,Tryz.ntmps144
    go_wp2_with fail
    go_quiet (fail)
    go_wp2_with(first|(go_at_call 142;refine(L.out _).mono ?_;rintro e w' ⟨rfl,rfl⟩)|(go_at_call 134;refine(V.out _).mono ?_;rintro e w' ⟨rfl,rfl⟩))
    exact mZ
end Go.Proofs.YtadndhgebgjlaaaGreat
