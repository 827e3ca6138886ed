/- make([]byte, 16); double, both sides: the shift of a block to the left by one bit; Cuts of slices of bytes. No program is named here; Plain law: Decrypt and ... -/
import Derived.Deep.RegionLawGrows
import Derived.Lib.SlBytesConst
import Derived.Test.YtadndhgebgjlaaaGreatPBd
import Derived.Test.YtadndhgebgjlaaaGreatPBe
import Derived.Test.YtadndhgebgjlaaaGreatPBf
import Derived.Test.YtadndhgebgjlaaaGreatPBh
import Derived.Test.YtadndhgebgjlaaaGreatPv
import Derived.Test.YtadndhgebgjlaaaGreatPy
set_option linter.all false
set_option maxRecDepth 100000
set_option maxHeartbeats 4000000
namespace Go.Proofs.YtadndhgebgjlaaaGreat
open Go.RowKit Go.Deep
theorem ma{P:Prop}(h:P:=by
 obtain⟨a8,c8,e8,h8⟩:∃a c,v 8=_/\_:=hF 8 (hA 8 (by simp))
 simp only [e8]at hK
 go_simp
 exact hK _ _ hJ iB ⟨_,_,rfl,h8⟩):P:=h
theorem mg{P:Prop}(h:P:=by
 obtain⟨a7,c7,e7,h7⟩:∃a c,v 7=_/\_:=hF 7 (hA 7 (by simp))
 simp only [e7]at hK
 go_simp
 exact hK _ _ hJ iB ⟨_,_,rfl,h7⟩):P:=h
theorem mh{P:Prop}(h:P:=by
 obtain⟨a9,c9,e9,h9⟩:∃a c,v 9=_/\_:=hF 9 (hA 9 (by simp))
 simp only [e9]at hK
 go_simp
 exact hK _ _ hJ iB ⟨_,_,rfl,h9⟩):P:=h
theorem mw{P:Prop}(h:P:=by
 obtain⟨a8,c8,e8,h8⟩:∃a c,v 8=_/\_:=hF 8 (hA 8 (by simp))
 simp only [e8]at hK
 go_simp
 exact hK _ _ hJ iB rfl):P:=h
theorem mY{P:Prop}(h:P:=by
 obtain⟨a10,c10,e10,h10⟩:∃a c,v 10=_/\_:=hF 10 (hA 10 (by simp))
 simp only [e10]at hK
 go_simp
 exact hK _ _ hJ iB ⟨_,_,rfl,h10⟩):P:=h
theorem m0v{P:Prop}(h:P:=by
 exact(.cons (fun _ _ _ _ _ _ h=>h) (.cons (fun _ _ _ _ _ _ h=>h) (.cons (fun _ _ _ _ _ _ h=>h) (.cons (fun _ _ _ _ _ _ h=>h) (.cons (fun _ _ _ _ _ hr ⟨a,c,e,h⟩=>⟨a,c,e,h.lift hr⟩) (.cons (fun _ _ _ _ _ _ h=>h) (.cons (fun _ _ _ _ _ hr ⟨a,c,e,h⟩=>⟨a,c,e,h.lift hr⟩) (.cons (fun _ _ _ _ _ hr ⟨a,c,e,h⟩=>⟨a,c,e,BsS.keep h fun g hg hl=>⟨hr.block g hl,hg.1,iZ hl hr.size⟩⟩) (.cons (fun _ _ _ _ _ hr ⟨a,c,e,h⟩=>⟨a,c,e,BsS.keep h fun g hg hl=>⟨hr.block g hl,hg.1,iZ hl hr.size⟩⟩) (.cons (fun _ _ _ _ _ hr ⟨a,c,e,h⟩=>⟨a,c,e,BsS.keep h fun g hg hl=>⟨hr.block g hl,hg.1,iZ hl hr.size⟩⟩) (.cons (fun _ _ _ _ _ _ h=>h) (.cons (fun _ _ _ _ _ hr ⟨a,c,e,h⟩=>⟨a,c,e,BsS.keep h fun g hg hl=>⟨hr.block g hl,hg.1,iZ hl hr.size⟩⟩) (.cons (fun _ _ _ _ _ _ h=>h) .nil)))))))))))))):P:=h
theorem m0w{P:Prop}(h:P:=by
 by_cases h0:b.length=0
 ·have t1:((b.length:Int)==0)=true:=by rw [beq_iff_eq];omega
  have ho:decide (kI b)=true:=decide_eq_true (Or.inl h0)
  have HO:=iH ho;clear h0 ho
  go_wp2_with fail
  go_meet
  exact⟨by rw [Ho.out,HO.out],rfl⟩
 ·have t1:((b.length:Int)==0)=false:=by rw [beq_eq_false_iff_ne];omega
  by_cases h1:b.length % 16=0
  ·have t2:((b.length:Int) % 16 != 0)=false:=by rw [bne_eq_false_iff_eq];omega
   have ho:decide (kI b)=false:=decide_eq_false (fun e=>e.elim h0 (fun e=>e h1))
   have HO:=iH ho;clear h0 h1 ho
   go_wp2_with fail
   go_meet
   exact⟨by rw [Ho.out,HO.out],rfl⟩
  ·have t2:((b.length:Int) % 16 != 0)=true:=by rw [bne_iff_ne];omega
   have ho:decide (kI b)=true:=decide_eq_true (Or.inr h1)
   have HO:=iH ho;clear h0 h1 ho
   go_wp2_with fail
   go_meet
   exact⟨by rw [Ho.out,HO.out],rfl⟩):P:=h
theorem m38{P:Prop}(h:P:=by
 obtain⟨a9,c9,e9,h9⟩:∃a c,v 9=_/\_:=hF 9 (hA 9 (by simp))
 simp only [e9]at hK
 go_simp
 exact hK _ _ hJ iB rfl):P:=h
theorem m3f{P:Prop}(h:P:=by
 go_upto_region 1 with fail
 rw [<-HW0.out]
 go_wp2_with fail
 go_ret
 exact⟨_,rfl,OwnN.nil _ _,HB.out⟩):P:=h
section
open Go.RowKit
def wz(w:World):World:=w.alloc (.cells (kO 16 fun _=>0) 5)
theorem KM(w:World):(Instr.makeSlice 27 (.int .i64 16) (.int .i64 16)).run Tryz.prog w=.ok (.slice (some ⟨w.heap.size,0,none⟩) 16 16) (wz w):=by kernel_rfl
theorem j75(w:World):BsS (wz w) (New w (wz w)) (.slice (some ⟨w.heap.size,0,none⟩) 16 16) (List.replicate 16 0):=by
 have hr:(w.alloc (.cells (kO 16 fun _=>0) 5)).rowIs w.heap.size 5 16 (fun j=>U8 ((fun _=>0) j)):=jW _ _ _ _
 exact BsS.of_row (S:=New w (wz w)) hr (by omega) ⟨Nat.le_refl _,by unfold wz;simp⟩
theorem k7(w:World):Below w.heap.size w (wz w):=iA
def Z16:List UInt8:=List.replicate 16 0
theorem qK:Z16.length=16:=rfl
theorem Ku(w:World):BsS (wz w) (New w (wz w)) (.slice (some ⟨w.heap.size,0,none⟩) 16 16) Z16:=j75 w
attribute [irreducible] wz Z16
end
def UR(f:Nat->UInt8)(j:Nat):UInt8:=f j*2 ||| if j+1<16 then f (j+1) / 128 else 0
def j6l(f:Nat->UInt8)(j:Nat):UInt8:=if j=15/\128<=bv (f 0)then UR f j ^^^ 135 else UR f j
def j47(l:List UInt8):List UInt8:=jH 16 (j6l (gb l))
theorem Yh(l:List UInt8):(j47 l).length=16:=jw _ _
def Ug(m:Nat)(new:Nat->UInt8)(j:Nat):UInt8:=if m<=j then new j else 0
theorem XR{w:World}{g N n:Nat}{t:TypeId}{new:Nat->UInt8}{v:UInt8}(h:w.rowIs g t N (fun j=>U8 (Ug (n+1) new j)))(hv:v=new n):
 (w.setCell ⟨g,n,none⟩ (U8 v)).rowIs g t N (fun j=>U8 (Ug n new j)):=
 (h.set n _).congr fun j _=>by
   unfold Ug
   by_cases e:j=n
   ·subst e;simp [hv]
   ·by_cases e2:n<=j
    ·simp [e,e2,show n+1<=j by omega]
    ·simp [e,e2,show ¬n+1<=j by omega]
def j4q(f:Nat->UInt8)(m:Nat):UInt8:=if m<16 then f m / 128 else 0
theorem j4g(w:World):(wz w).rowIs w.heap.size 5 16 (fun j=>U8 ((fun _=>0) j)):=by unfold wz;exact jW _ _ _ _
theorem Yo(b:UInt8):(b / 128==1)=decide (128<=bv b):=by
 have h:(b / 128).toNat=b.toNat / 128:=by rw [UInt8.toNat_div]<;>rfl
 have h2:=b.toNat_lt
 by_cases e:128<=bv b
 ·have:b / 128=1:=UInt8.toNat_inj.1 (by rw [h];unfold bv at e;show _=1;omega)
  rw [this];simp [e]
 ·have:¬b / 128=1:=fun hh=>by rw [hh]at h;unfold bv at e;have:(1:UInt8).toNat=1:=rfl;omega
  simp [e,this]
section
variable{w:World}{g:Nat}{t:TypeId}{f:Nat->UInt8}(h:w.rowIs g t 16 (fun j=>U8 (UR f j)))
include w g t f h
theorem j0m(hb:¬128<=bv (f 0)):w.rowIs g t 16 (fun j=>U8 (j6l f j)):=
 h.congr fun j _=>by unfold j6l;rw [iF (fun e=>hb e.2)]
theorem Kj(hb:128<=bv (f 0)):(w.setCell ⟨g,15,none⟩ (U8 (UR f 15 ^^^ 135))).rowIs g t 16 (fun j=>U8 (j6l f j)):=
 (h.set 15 _).congr fun j _=>by
   unfold j6l
   by_cases e:j=15
   ·subst e;rw [iT rfl,iT ⟨rfl,hb⟩]
   ·rw [iF e,iF (fun x=>e x.1)]
end
theorem JN(v:Value)(l:List UInt8)(hl:l.length=16)(w:World)(hv:Bs w w.heap.size v l):
 Calls Tryz.prog 137 #[v] w fun e w'=>∃v',e=.returned v'/\BsS w' (New w w') v' (j47 l)/\Below w.heap.size w w':=by
 obtain⟨A0,n,c,rfl⟩:=hv.form
 obtain⟨a,c0,e0,hc,_,_,hcell⟩:=hv
 injection e0 with e1 e2 e3
 subst e1 e3
 rw [hl]at e2
 subst e2
 obtain⟨bb,ob,rfl,hbb,hx⟩:=hcell (by omega)
 rw [hl]at hx
 have HX:=iH hx;have HC:=iH hc;have HL:=iH hl;have Hm:=KM
 clear hx hcell hc hl
 go_enter Tryz.func137,Tryz.ntmps137
 go_wp2_with fail
 go_loopw [5,4] (fun i cr wr=>∃m:Nat,m<=16/\i=.int .i64 ((m:Int) - 1)/\cr=U8 (j4q (gb l) m)/\wr.rowIs w.heap.size 5 16 (fun j=>U8 (Ug m (UR (gb l)) j))/\Below w.heap.size w wr) (fun i _ _=>(intOf i+1).toNat)
 case atStart=>exact⟨16,by omega,rfl,rfl,(j4g w).congr fun j hj=>by unfold Ug;rw [iF (by omega)],k7 w⟩
 case round=>
  obtain⟨m,hm,hi,rfl,hr,hb⟩:=hrel
  cases m with
  |zero=>
   have hd:decide ((-1:Int)>=0)=false:=by decide
   have hi:_=Value.int .i64 (-1):=hi
   subst hi
   have hr0:=hr.congr (g:=fun j=>U8 (UR (gb l) j)) fun j _=>by unfold Ug;rw [iT (by omega)]
   have c1:wr.cell? ⟨w.heap.size,15,none⟩=some (U8 (UR (gb l) 15)):=hr0.cell (by omega)
   have f1:=hr0.frozen 15
   have hr1:=iH hr0;have hb1:=iH hb;clear hr hr0 hb
   by_cases hh:128<=bv (gb l 0)
   ·have hq:(j4q (gb l) 0==1)=true:=by unfold j4q;rw [iT (by omega),Yo];simp [hh]
    have H:=iH hh;clear hh
    go_wp2_with fail
    go_ret
    have hr2:=Kj hr1.out H.out
    refine⟨_,rfl,BsS.of_row (S:=New w _) hr2 (by omega) ⟨Nat.le_refl _,by have:=hr2.lt;exact this⟩,hb1.out.setCell (by simp) _⟩
   ·have hq:(j4q (gb l) 0==1)=false:=by unfold j4q;rw [iT (by omega),Yo];simp [hh]
    have H:=iH hh;clear hh
    go_wp2_with fail
    go_ret
    have hr2:=j0m hr1.out (by have:=H.out;omega)
    refine⟨_,rfl,BsS.of_row (S:=New w _) hr2 (by omega) ⟨Nat.le_refl _,by have:=hr2.lt;exact this⟩,hb1.out⟩
  |succ k=>
   rw [show((k+1:Nat):Int) - 1=k by omega]at hi
   subst hi
   have hr1:=iH hr;have hb1:=iH hb;clear hr hb
   have c1:wr.cell? ⟨bb,ob+k,none⟩=some (U8 (gb l k)):=(hb1.out.cell (p:=⟨bb,ob+k,none⟩) hbb).trans (HX.out k (by omega))
   have f1:=hr1.out.frozen k
   have c3:=hr1.out.cell (i:=k) (by omega)
   have hn:¬w.heap.size=bb:=by omega
   have hk:(k:Int)<16:=by omega
   have hd:decide ((k:Int)>=0)=true:=by simp
   have c2:(wr.setCell ⟨w.heap.size,k,none⟩ (.int .u8 (bv (gb l k*2 ||| j4q (gb l) (k+1))))).cell? ⟨bb,ob+k,none⟩=some (U8 (gb l k)):=((hb1.out.setCell (p:=⟨w.heap.size,k,none⟩) (by simp) _).cell (p:=⟨bb,ob+k,none⟩) hbb).trans (HX.out k (by omega))
   go_wp2_with fail
   go_roundw
   case rel=>
    refine⟨k,by omega,by go_num,?_,XR hr1.out ?_,hb1.out.setCell (by simp) _⟩
    ·unfold j4q;rw [iT (by omega)]
    ·rfl
   case measure=>simp [intOf]<;>omega
theorem QG{w:World}{g N n:Nat}{t:TypeId}{new old:Nat->UInt8}{v u:UInt8}(h:w.rowIs g t N (fun j=>U8 (qQ n new old j)))(hv:v=new n):
 ((w.setCell ⟨g,n,none⟩ (U8 u)).setCell ⟨g,n,none⟩ (U8 v)).rowIs g t N (fun j=>U8 (qQ (n+1) new old j)):=
 ((h.set n _).set n _).congr fun j _=>by
   unfold qQ
   by_cases e:j=n
   ·subst e;simp [hv]
   ·by_cases e2:j<n
    ·simp [e,e2,show j<n+1 by omega]
    ·simp [e,e2,show ¬j<n+1 by omega]
theorem Kd(v:Value)(l:List UInt8)(hl:l.length=16)(w:World)(hv:Bs w w.heap.size v l):
 Calls Tryz.prog 123 #[v] w fun e w'=>∃v',e=.returned v'/\BsS w' (New w w') v' (j47 l)/\Below w.heap.size w w':=by
 obtain⟨A0,n,c,rfl⟩:=hv.form
 obtain⟨a,c0,e0,hc,_,_,hcell⟩:=hv
 injection e0 with e1 e2 e3
 subst e1 e3
 rw [hl]at e2
 subst e2
 obtain⟨bb,ob,rfl,hbb,hx⟩:=hcell (by omega)
 rw [hl]at hx
 have HX:=iH hx;have HC:=iH hc;have HL:=iH hl;have Hm:=KM
 clear hx hcell hc hl
 go_enter Tryz.func123,Tryz.ntmps123
 go_wp2_with fail
 go_loopw [4] (fun i wr=>∃m:Nat,m<=16/\i=.int .i64 (m:Int)/\wr.rowIs w.heap.size 5 16 (fun j=>U8 (qQ m (UR (gb l)) (fun _=>0) j))/\Below w.heap.size w wr) (fun i _=>16 - (intOf i).toNat)
 case atStart=>exact⟨0,by omega,rfl,jF (j4g w) _,k7 w⟩
 case round=>
  obtain⟨k,hm,rfl,hr,hb⟩:=hrel
  by_cases hk16:k<16
  ·have c3:=jR hr hk16
   have c1:wr.cell? ⟨bb,ob+k,none⟩=some (U8 (gb l k)):=(hb.cell (p:=⟨bb,ob+k,none⟩) hbb).trans (HX.out k (by omega))
   have f1:=hr.frozen k
   have hn:¬w.heap.size=bb:=by omega
   have hd:decide ((k:Int)<16)=true:=by simp;omega
   by_cases h15:k<15
   ·have hd2:decide ((k:Int)<15)=true:=by simp;omega
    have r2:=hr.set k (U8 (gb l k*2))
    have b2:=hb.setCell (p:=⟨w.heap.size,k,none⟩) (by simp) (U8 (gb l k*2))
    have d1:(wr.setCell ⟨w.heap.size,k,none⟩ (U8 (gb l k*2))).cell? ⟨bb,ob+(k+1),none⟩=some (U8 (gb l (k+1))):=(b2.cell (p:=⟨bb,ob+(k+1),none⟩) hbb).trans (HX.out (k+1) (by omega))
    have d2:(wr.setCell ⟨w.heap.size,k,none⟩ (U8 (gb l k*2))).cell? ⟨w.heap.size,k,none⟩=some (U8 (gb l k*2)):=by have:=r2.cell (i:=k) (by omega);simpa using this
    have d3:=r2.frozen k
    have k1:(k:Int)+1<16:=by omega
    have k2:((k:Int)+1).toNat=k+1:=by omega
    have hr1:=iH hr;have hb1:=iH hb;clear hr hb r2 b2
    go_wp2_with fail
    go_region
    go_wp2_with fail
    go_roundw
    case rel=>
     refine⟨k+1,by omega,by go_num,(QG hr1.out ?_).drew,((hb1.out.setCell (by simp) _).setCell (by simp) _).drew⟩
     unfold UR;rw [iT (by omega)]
    case measure=>simp [intOf]<;>omega
   ·have hd2:decide ((k:Int)<15)=false:=by simp;omega
    have hr1:=iH hr;have hb1:=iH hb;clear hr hb
    go_wp2_with fail
    go_roundw
    case rel=>
     refine⟨k+1,by omega,by go_num,jL hr1.out ?_,hb1.out.setCell (by simp) _⟩
     unfold UR;rw [iF (by omega)];simp
    case measure=>simp [intOf]<;>omega
  ·have hd:decide ((k:Int)<16)=false:=by simp;omega
   have hr0:=jE hr (by omega)
   have c1:wr.cell? ⟨w.heap.size,15,none⟩=some (U8 (UR (gb l) 15)):=hr0.cell (by omega)
   have c2:wr.cell? ⟨bb,ob,none⟩=some (U8 (gb l 0)):=(hb.cell (p:=⟨bb,ob,none⟩) hbb).trans (HX.out 0 (by omega))
   have f1:=hr0.frozen 15
   have hr1:=iH hr0;have hb1:=iH hb;clear hr hr0 hb
   by_cases hh:128<=bv (gb l 0)
   ·have hq:decide (bv (gb l 0)>=128)=true:=by simp;omega
    have H:=iH hh
    go_wp2_with fail
    go_ret
    have hr2:=Kj hr1.out H.out
    refine⟨_,rfl,BsS.of_row (S:=New w _) hr2 (by omega) ⟨Nat.le_refl _,by have:=hr2.lt;exact this⟩,hb1.out.setCell (by simp) _⟩
   ·have hq:decide (bv (gb l 0)>=128)=false:=by simp;omega
    have H:=iH hh
    go_wp2_with fail
    go_ret
    have hr2:=j0m hr1.out (by have:=H.out;omega)
    refine⟨_,rfl,BsS.of_row (S:=New w _) hr2 (by omega) ⟨Nat.le_refl _,by have:=hr2.lt;exact this⟩,hb1.out⟩
section
variable{w:World}{S:Nat->Prop}{b off n c:Nat}{l:List UInt8}(h:BsS w S (.slice (some ⟨b,off,none⟩) n c) l)(k:Nat)(hk:k<=l.length)
include w S b off n c l h k hk
theorem j6k:BsS w S (.slice (some ⟨b,off+k,none⟩) (n - k) (c - k)) (l.drop k):=by
 obtain⟨a,c',hv,h1,h2,h3,h4⟩:=h
 injection hv with ha hn hc
 subst ha hc hn
 refine⟨_,c - k,by rw [List.length_drop],by rw [List.length_drop];omega,by omega,by rw [List.length_drop];omega,fun hp=> ?_⟩
 rw [List.length_drop]at hp
 obtain⟨b',off',e,hb,hcell⟩:=h4 (by omega)
 injection e with e
 injection e with e1 e2
 subst e1 e2
 refine⟨b,off+k,rfl,hb,fun j hj=> ?_⟩
 rw [List.length_drop]at hj
 rw [Nat.add_assoc,hcell (k+j) (by omega)]
 congr 2
 unfold gb
 rw [List.getD_eq_getElem?_getD,List.getD_eq_getElem?_getD,List.getElem?_drop]
theorem Yg(n' c':Nat)(hn:n'=n - k)(hc:c'=c - k):BsS w S (.slice (some ⟨b,off+k,none⟩) n' c') (l.drop k):=by
 subst hn hc
 exact j6k h k hk
end
theorem QY{w:World}{S:Nat->Prop}{A:Option Addr}{n c:Nat}{l:List UInt8}(h:BsS w S (.slice A n c) l)(hl:0<l.length):∃b off,A=some ⟨b,off,none⟩:=by
 obtain⟨_,_,hv,_,_,_,h4⟩:=h
 injection hv with ha hn hc
 obtain⟨b,off,e,_⟩:=h4 hl
 exact⟨b,off,ha.trans e⟩
theorem Vl(a:UInt8):dbl a=a <<< 1 ^^^ (a >>> 7)*27:=by
 refine kw (p:=fun a=>dbl a=a <<< 1 ^^^ (a >>> 7)*27) ?_ a
 decide+kernel
theorem j14(a:UInt8):a >>> 7=0\/a >>> 7=1:=by
 refine kw (p:=fun a=>a >>> 7=0\/a >>> 7=1) ?_ a
 decide+kernel
theorem j8b(a b c d:UInt8):(a ^^^ b) ^^^ (c ^^^ d)=(a ^^^ c) ^^^ (b ^^^ d):=by ac_rfl
theorem Vm(a b:UInt8):dbl (a ^^^ b)=dbl a ^^^ dbl b:=by
 rw [Vl,Vl,Vl,UInt8.shiftLeft_xor,UInt8.shiftRight_xor,j8b]
 congr 1
 rcases j14 a with e|e<;>rcases j14 b with e2|e2<;>rw [e,e2]<;>decide
theorem Vu(n:Nat):∀(a a' b o o':UInt8),zO n (a ^^^ a') b (o ^^^ o')=zO n a b o ^^^ zO n a' b o':=by
 induction n with
 |zero=>intro a a' b o o';rfl
 |succ n ih=>
  intro a a' b o o'
  by_cases hb:(b != 0)=true
  ·by_cases h1:(b &&& 1==1)=true
   ·rw [xR _ _ _ _ hb h1,xR _ _ _ _ hb h1,xR _ _ _ _ hb h1,Vm,j8b,ih]
   ·have h1:(b &&& 1==1)=false:=by simpa using h1
    rw [xd _ _ _ _ hb h1,xd _ _ _ _ hb h1,xd _ _ _ _ hb h1,Vm,ih]
  ·have hb:(b != 0)=false:=by simpa using hb
   rw [xQ _ _ _ _ hb,xQ _ _ _ _ hb,xQ _ _ _ _ hb]
theorem Qn(a a' b:UInt8):yh (a ^^^ a') b=yh a b ^^^ yh a' b:=by
 have:=Vu 8 a a' b 0 0
 rwa [show(0:UInt8) ^^^ 0=0 from rfl]at this
theorem yi(a b c d e:UInt8):yh (a ^^^ b ^^^ c ^^^ d) e=yh a e ^^^ yh b e ^^^ yh c e ^^^ yh d e:=by
 rw [Qn,Qn,Qn]
theorem qO(row f:Nat->UInt8)(c r:Nat)(hr:r<4):
 Kw row f (4*c+r)=yh (f (4*c)) (row ((0+4 - r) % 4)) ^^^ yh (f (4*c+1)) (row ((1+4 - r) % 4)) ^^^ yh (f (4*c+2)) (row ((2+4 - r) % 4)) ^^^ yh (f (4*c+3)) (row ((3+4 - r) % 4)):=by
 unfold Kw
 rw [xi,xi,xi,xi]
 rw [show(4*c+r) / 4*4=4*c by omega,show(4*c+r) % 4=r by omega]
 show 0 ^^^ _ ^^^ _ ^^^ _ ^^^ _=_
 rw [UInt8.zero_xor,Nat.add_zero]
def xG(D E:Nat->UInt8)(m r:Nat)(x:UInt8):UInt8:=
 yh (yh x (E ((m+4 - 0) % 4))) (D ((0+4 - r) % 4)) ^^^ yh (yh x (E ((m+4 - 1) % 4))) (D ((1+4 - r) % 4)) ^^^ yh (yh x (E ((m+4 - 2) % 4))) (D ((2+4 - r) % 4)) ^^^ yh (yh x (E ((m+4 - 3) % 4))) (D ((3+4 - r) % 4))
theorem j5c(D E f:Nat->UInt8)(c r:Nat)(hr:r<4):
 Kw D (Kw E f) (4*c+r)=xG D E 0 r (f (4*c)) ^^^ xG D E 1 r (f (4*c+1)) ^^^ xG D E 2 r (f (4*c+2)) ^^^ xG D E 3 r (f (4*c+3)):=by
 rw [qO D (Kw E f) c r hr]
 have h0:=qO E f c 0 (by omega)
 have h1:=qO E f c 1 (by omega)
 have h2:=qO E f c 2 (by omega)
 have h3:=qO E f c 3 (by omega)
 rw [Nat.add_zero]at h0
 rw [h0,h1,h2,h3,yi,yi,yi,yi]
 unfold xG
 simp only [Nat.zero_add,Nat.sub_zero]
 generalize D (_ % 4)=d0
 ac_rfl
def idC(m r:Nat)(x:UInt8):UInt8:=if m=r then x else 0
theorem ZS:∀m,m<4->∀r,r<4->∀n,n<256->xG US VQ m r (UInt8.ofNat n)=idC m r (UInt8.ofNat n):=by
 decide+kernel
theorem j65(m r:Nat)(hm:m<4)(hr:r<4)(x:UInt8):xG US VQ m r x=idC m r x:=
 kw (p:=fun x=>xG US VQ m r x=idC m r x) (fun n hn=>ZS m hm r hr n hn) x
theorem j2m(D E f:Nat->UInt8)(h:∀m r,m<4->r<4->∀x,xG D E m r x=idC m r x)(i:Nat):Kw D (Kw E f) i=f i:=by
 obtain⟨c,r,hr,rfl⟩:∃c r,r<4/\i=4*c+r:=⟨i / 4,i % 4,by omega,by omega⟩
 rw [j5c D E f c r hr,h 0 r (by omega) hr,h 1 r (by omega) hr,h 2 r (by omega) hr,h 3 r (by omega) hr]
 unfold idC
 rcases r with _|_|_|_|r
 ·simp
 ·simp
 ·simp
 ·simp
 ·omega
theorem VP(f:Nat->UInt8):Kw US (Kw VQ f)=f:=by
 funext i
 exact j2m US VQ f (fun m r hm hr x=>j65 m r hm hr x) i
theorem Um(row:Nat->UInt8){f g:Nat->UInt8}(h:∀j,j<16->f j=g j)(j:Nat)(hj:j<16):Kw row f j=Kw row g j:=by
 obtain⟨c,r,hr,rfl⟩:∃c r,r<4/\j=4*c+r:=⟨j / 4,j % 4,by omega,by omega⟩
 rw [qO row f c r hr,qO row g c r hr,h _ (by omega),h _ (by omega),h _ (by omega),h _ (by omega)]
theorem j7w(f:Nat->UInt8)(i:Nat)(hi:i<16):Jj 3 (Jj 1 f) i=f i:=by
 unfold Jj;congr 1;omega
theorem UG(s:Nat){f g:Nat->UInt8}(h:∀j,j<16->f j=g j)(i:Nat):Jj s f i=Jj s g i:=by
 unfold Jj;exact h _ (by omega)
theorem j4n(b:UInt8):bck (fwd b.toNat).toNat=b:=by rw [j49,j41]
theorem QT(a b:UInt8):a ^^^ b ^^^ b=a:=by rw [UInt8.xor_assoc,UInt8.xor_self,UInt8.xor_zero]
section
variable(key f g:Nat->UInt8)(hg:∀j,j<16->g j=j4y key f j)
include key f g hg
theorem j4x(n:Nat)(hn:n<=10):∀j,j<16->j1m key g n j=j1n key f (10 - n) j:=by
 induction n with
 |zero=>intro j hj;exact hg j hj
 |succ n ih=>
  have ih:=ih (by omega)
  obtain⟨m,hm⟩:∃m,10 - n=m+1:=⟨9 - n,by omega⟩
  have hm2:10 - (n+1)=m:=by omega
  intro j hj
  rw [hm2]
  show bck (Jj 3 _ j).toNat=_
  have hstep:∀i,i<16->(if 10 - n<10 then Kw US (fun j=>j1m key g n j ^^^ qu fwd key (10 - n) j)else fun j=>j1m key g n j ^^^ qu fwd key (10 - n) j) i=Jj 1 (fun j=>fwd (j1n key f m j).toNat) i:=by
   rw [hm]at ih |-
   have hs:∀i,i<16->j1m key g n i ^^^ qu fwd key (m+1) i=(if m+1<10 then Kw VQ (Jj 1 fun j=>fwd (j1n key f m j).toNat) i else Jj 1 (fun j=>fwd (j1n key f m j).toNat) i):=fun i hi=>by
    rw [ih i hi]
    exact QT _ _
   intro i hi
   by_cases h:m+1<10
   ·rw [iT h]
    rw [Um US hs i hi]
    simp only [iT h]
    exact congrFun (VP _) i
   ·rw [iF h]
    rw [hs i hi,iF h]
  rw [UG 3 hstep,j7w _ _ hj]
  exact j4n _
theorem Vn(j:Nat)(hj:j<16):j4u key g j=f j:=by
 unfold j4u
 rw [j4x key f g hg 10 (by omega) j hj]
 exact QT _ _
end
theorem Xj(k l:List UInt8)(hl:l.length=16):jH 16 (j4u (gb k) (gb (jH 16 (j4y (gb k) (gb l)))))=l:=by
 rw [<-zY l 16 hl]
 exact qL fun j hj=>by
  rw [zY l 16 hl]
  exact Vn (gb k) (gb l) _ (fun j hj=>k8 _ _ _ hj) j hj
theorem Vo(k l:List UInt8)(hl:l.length=16):Ky k (qS k l)=l:=by
 unfold Ky qS;exact Xj k l hl
theorem j1k(a c:List UInt8)(ha:a.length=16):qY (qY a c) c=a:=by
 rw [<-zY a 16 ha]
 unfold qY
 refine qL fun j hj=> ?_
 rw [k8 16 _ j hj,zY a 16 ha,QT]
theorem j3k(b:List UInt8)(n:Nat):b.take (16*(n+1))=b.take (16*n)++blk b n:=by
 unfold blk
 rw [show 16*(n+1)=16*n+16 by omega,List.take_add]
theorem U3{a c r:List UInt8}{n:Nat}(ha:a.length=16*n)(hc:c.length=16):blk (a++c++r) n=c:=by
 unfold blk
 rw [List.append_assoc,<-ha,List.drop_left,List.take_left' hc]
theorem Zv{P:Nat->List UInt8}{c:Nat->List UInt8}(hP:∀n,P (n+1)=P n++c n)(n d:Nat):∃r,P (n+d)=P n++r:=by
 induction d with
 |zero=>exact⟨[],by simp⟩
 |succ d ih=>
  obtain⟨r,h⟩:=ih
  exact⟨r++c (n+d),by rw [<-Nat.add_assoc,hP,h,List.append_assoc]⟩
section
variable{P:Nat->List UInt8}{c:Nat->List UInt8}(h0:P 0= [])(hP:∀n,P (n+1)=P n++c n){m:Nat}(hc:∀n,n<m->(c n).length=16)(n:Nat)
include P c h0 hP m hc n
theorem Yn(hn:n<=m):(P n).length=16*n:=by
 induction n with
 |zero=>rw [h0]<;>rfl
 |succ n ih=>rw [hP,List.length_append,ih (by omega),hc n (by omega)];omega
theorem j28(hn:n<m):blk (P m) n=c n:=by
 obtain⟨r,hr⟩:=Zv hP (n+1) (m - (n+1))
 rw [show n+1+(m - (n+1))=m by omega,hP]at hr
 rw [hr]
 exact U3 (Yn h0 hP hc n (by omega)) (hc n hn)
end
theorem j2q(k iv b:List UInt8):(xK k iv b (List.range 0)).1=iv:=rfl
theorem j3e(k iv b:List UInt8):(xL k iv b (List.range 0)).1=iv:=rfl
section
variable (k iv b:List UInt8)
def sC(n:Nat):List UInt8:=(xL k iv b (List.range n)).1
def sP(n:Nat):List UInt8:=(xL k iv b (List.range n)).2
def oC(n:Nat):List UInt8:=(xK k iv b (List.range n)).1
def oP(n:Nat):List UInt8:=(xK k iv b (List.range n)).2
theorem j61:sC k iv b 0=iv:=j3e k iv b
theorem j5i:oC k iv b 0=iv:=j2q k iv b
theorem QJ(n:Nat):sC k iv b (n+1)=qS k (qY (blk b n) (sC k iv b n)):=by unfold sC;rw [List.range_succ,qI]<;>rfl
theorem j0o(n:Nat):sP k iv b (n+1)=sP k iv b n++sC k iv b (n+1):=by rw [QJ];unfold sP sC;rw [List.range_succ,qI]<;>rfl
theorem j5h(n:Nat):oC k iv b (n+1)=blk b n:=by unfold oC;rw [List.range_succ,qH]<;>rfl
theorem j5j(n:Nat):oP k iv b (n+1)=oP k iv b n++qY (Ky k (blk b n)) (oC k iv b n):=by unfold oP oC;rw [List.range_succ,qH]<;>rfl
theorem xE{m:Nat}(hb:b.length=16*m):q9 k iv b=sP k iv b m:=by unfold q9 sP;rw [hb,Nat.mul_div_cancel_left _ (by omega)]
theorem j31{m:Nat}(hb:b.length=16*m):yq k iv b=oP k iv b m:=by unfold yq oP;rw [hb,Nat.mul_div_cancel_left _ (by omega)]
theorem Km(m:Nat):(sP k iv b m).length=16*m:=Yn (P:=sP k iv b) (c:=fun n=>sC k iv b (n+1)) rfl (j0o k iv b) (m:=m) (fun _ _=>by rw [QJ];exact kG _ _) m iL
theorem j4e(m n:Nat)(hn:n<m):blk (sP k iv b m) n=sC k iv b (n+1):=j28 (P:=sP k iv b) (c:=fun n=>sC k iv b (n+1)) rfl (j0o k iv b) (fun n _=>by rw [QJ];exact kG _ _) n hn
end
theorem j05(k iv b:List UInt8)(m:Nat)(hb:b.length=16*m):yq k iv (q9 k iv b)=b:=by
 rw [xE k iv b hb,j31 k iv _ (Km k iv b m)]
 have hc:∀n,n<=m->oC k iv (sP k iv b m) n=sC k iv b n:=fun n hn=>by
  cases n with
  |zero=>rw [j5i,j61]
  |succ n=>rw [j5h,j4e k iv b m n (by omega)]
 have hp:∀n,n<=m->oP k iv (sP k iv b m) n=b.take (16*n):=fun n=>by
  induction n with
  |zero=>intro _;rfl
  |succ n ih=>
   intro hn
   rw [j5j,ih (by omega),hc n (by omega),j4e k iv b m n (by omega),j3k,QJ,Vo _ _ (kh _ _),j1k _ _ (xN hb (by omega))]
 rw [hp m iL,<-hb,List.take_length]
def zg(w:World)(l:List UInt8)(n:Int)(e:Ending)(w':World):Prop:=∃v',e=.returned (.tuple #[v',.int .i64 n])/\Bs w' w'.heap.size v' l/\Below w.heap.size w w'
def kI(b:List UInt8):Prop:=b.length=0\/¬b.length % 16=0
instance (b:List UInt8):Decidable (kI b):=by unfold kI;infer_instance
def j0y(k:List UInt8):List UInt8:=j47 (qS k Z16)
def zF(k b:List UInt8):List UInt8:=if kI b then j47 (j0y k)else j0y k
def qR(b:List UInt8):List UInt8:=if kI b then xW b else b
def qw(x kk:List UInt8):List UInt8:=x.take (x.length - 16)++qY (x.drop (x.length - 16)) kk
def xy(k b:List UInt8):List UInt8:=if k.length=16 then(q9 k Z16 (qw (qR b) (zF k b))).drop ((qR b).length - 16)else []
theorem QL(k:List UInt8):(j0y k).length=16:=Yh _
theorem Xe(k b:List UInt8):(zF k b).length=16:=by unfold zF;split;exact Yh _;exact QL _
theorem JK(b:List UInt8):∃m,(qR b).length=16*m+16:=by
 unfold qR
 split
 ·have h1:=qx b
  have h2:0<(xW b).length:=by rw [kH];omega
  exact⟨(b.length+1+zJ b.length) / 16 - 1,by omega⟩
 ·rename_i h
  unfold kI at h
  exact⟨b.length / 16 - 1,by omega⟩
theorem xT{x:List UInt8}(kk:List UInt8)(h:16<=x.length):(qw x kk).length=x.length:=by
 unfold qw;rw [List.length_append,kh,List.length_take];omega
theorem Uz{w':World}{base g M cap:Nat}{cur:List Value}{x kk:List UInt8}(hx:x.length=M+16)(hg:base<=g)(hcur:cur.length=cap)(hc:M+16<=cap)(hm:cap<=maxLen)(ht:cur.take (M+16)=x.map U8)(h:w'.heap[g]?=some (.cells (splice cur M ((qY (x.drop M) kk).map U8)).toArray 5 (0,0))):w'.ownsRow base 5 1 (.slice (some ⟨g,0,none⟩) (M+16) cap) (qw x kk).length ((qw x kk).map U8):=by
 have hl:(qw x kk).length=M+16:=by rw [xT _ (by omega),hx]
 have hxl:((qY (x.drop M) kk).map U8).length=16:=by rw [List.length_map,kh]
 refine⟨by rw [List.length_map];omega,.inr ⟨g,cap,_,by rw [hl],hg,h,by omega,hm,?_,?_⟩⟩
 ·rw [List.size_toArray,length_splice _ _ _ (by omega)];omega
 ·rw [hl,Nat.mul_one]
  show(splice cur M _).take (M+16)=_
  unfold splice qw
  rw [<-List.append_assoc,List.take_append_of_le_length (by rw [List.length_append,List.length_take,hxl];omega),List.take_of_length_le (by rw [List.length_append,List.length_take,hxl];omega),
   List.map_append,show x.length - 16=M by omega,List.map_take,<-ht,List.take_take,Nat.min_eq_left (by omega)]
theorem QA{w:World}{base base':Nat}{e:TypeId}{v:Value}{n size:Nat}{xs:List Value}(h:w.ownsRow base e size v n xs)(hb:base'<=base):w.ownsRow base' e size v n xs:=by
 refine⟨h.1,?_⟩
 rcases h.2 with h2|⟨g,cap,cur,hv,hg,r⟩
 ·exact .inl h2
 ·exact .inr ⟨g,cap,cur,hv,Nat.le_trans hb hg,r⟩
theorem j55(a b:List UInt8)(j:Nat)(h:j<a.length):gb (a++b) j=gb a j:=by unfold gb;rw [List.getD_eq_getElem?_getD,List.getD_eq_getElem?_getD,List.getElem?_append_left h]
theorem j24(a b:List UInt8)(j:Nat)(h:a.length<=j):gb (a++b) j=gb b (j - a.length):=by unfold gb;rw [List.getD_eq_getElem?_getD,List.getD_eq_getElem?_getD,List.getElem?_append_right h]
theorem j23(n:Nat)(f:Nat->UInt8)(j:Nat)(h:j<n):gb (jH n f) j=f j:=by unfold gb jH;rw [List.getD_eq_getElem?_getD];simp [h]
theorem VG{x kk:List UInt8}{M j:Nat}(hx:x.length=M+16)(hj:j<M+16):gb (qw x kk) j=if M<=j then gb x j ^^^ gb kk (j - M)else gb x j:=by
 unfold qw
 rw [show x.length - 16=M by omega]
 by_cases h:M<=j
 ·rw [iT h,j24 _ _ _ (by rw [List.length_take];omega),List.length_take,show min M x.length=M by omega]
  unfold qY
  rw [j23 _ _ _ (by omega)]
  congr 1
  unfold gb
  rw [List.getD_eq_getElem?_getD,List.getD_eq_getElem?_getD,List.getElem?_drop,show M+(j - M)=j by omega]
 ·rw [iF h,j55 _ _ _ (by rw [List.length_take];omega)]
  unfold gb
  rw [List.getD_eq_getElem?_getD,List.getD_eq_getElem?_getD,List.getElem?_take,iT (by omega)]
def KA(x kk:List UInt8)(M n:Nat)(j:Nat):UInt8:=if M<=j/\j<M+n then gb x j ^^^ gb kk (j - M)else gb x j
theorem Uk(x kk:List UInt8)(M:Nat):KA x kk M 0=gb x:=by funext j;unfold KA;rw [iF (by omega)]
theorem j2i(x kk:List UInt8)(M n:Nat):KA x kk M n (M+n)=gb x (M+n):=by unfold KA;rw [iF (by omega)]
theorem VE(x kk:List UInt8)(M n N:Nat):(zE N (KA x kk M n)).set (M+n) (U8 (gb x (M+n) ^^^ gb kk n))=zE N (KA x kk M (n+1)):=by
 rw [JB]
 refine qj fun j _=> ?_
 unfold KA
 by_cases e:j=M+n
 ·subst e;rw [iT rfl,iT (by omega),Nat.add_sub_cancel_left]
 ·rw [iF e]
  by_cases e2:M<=j/\j<M+n
  ·rw [iT e2,iT (by omega)]
  ·rw [iF e2,iF (by omega)]
theorem Uj{x kk:List UInt8}{M:Nat}(hx:x.length=M+16):zE (M+16) (KA x kk M 16)=(qw x kk).map U8:=by
 rw [QQ (qw x kk) (M+16) (by rw [xT _ (by omega),hx])]
 refine qj fun j hj=> ?_
 rw [VG hx hj]
 unfold KA
 by_cases h:M<=j
 ·rw [iT ⟨h,by omega⟩,iT h]
 ·rw [iF (fun e=>h e.1),iF h]
theorem UD(vk vb:Value)(k b:List UInt8)(hk:k.length=16)(hl:b.length<=140737488351232)(w:World)(hvk:Bs w w.heap.size vk k)(hvb:Bs w w.heap.size vb b):
 Calls Tryz.prog 97 #[vk,vb] w fun e w'=>∃v',e=.returned (.tuple #[v',.int .i64 0])/\Bs w' w'.heap.size v' (xy k b)/\Below w.heap.size w w':=by
 obtain⟨A1,n1,c1,rfl⟩:=hvk.form
 have hn1:=Bs.lenEq hvk
 rw [hk]at hn1
 subst hn1
 obtain⟨A0,n0,c0,rfl⟩:=hvb.form
 have hn:=Bs.lenEq hvb
 subst hn
 have Hk:=iH hvk;have Hb:=iH hvb;have Lk:=iH hk;have Lb:=iH hl;have Hm:=KM;clear hvk hvb hk hl
 go_enter Tryz.func97,Tryz.ntmps97
 go_upto_region 3 with (fail)
 go_cut [6] from 14 to 18 (fun v wx=>Bs wx wx.heap.size v (j0y k)/\Below w.heap.size w wx)
 case first=>
  go_region_with (first
   |(go_at_call 92
     first
     |(refine(qp _ k Lk.out w.drew (show Bs w.drew w.drew.heap.size _ k from Hk.out)).mono ?_
       rintro e w1 ⟨p,rfl,hp,hb1⟩
       have hz:=iH (Ku w1).bs;have hP2:=iH ((hp.below (k7 w1)).mono (k7 w1).size);have hB1:=iH (hb1.trans ((k7 w1).mono hb1.size))
       clear hp hb1)
     |(refine(qp _ k Lk.out (wz w.drew) ((show Bs w.drew w.drew.heap.size _ k from Hk.out).lift (k7 w.drew))).mono ?_
       rintro e w1 ⟨p,rfl,hp,hb1⟩
       have hP2:=iH hp;have hz:=iH ((Ku w.drew).bs.lift hb1);have hB1:=iH ((k7 w.drew).trans (hb1.mono (k7 w.drew).size))
       clear hp hb1))
   |(go_at_call 93
     refine(j5x _ _ k Z16 qK _ hP2.out hz.out).mono ?_
     rintro e w2 ⟨v2,rfl,hv2,hb2⟩
     have hV2:=iH hv2.bs;have hB2:=iH (hB1.out.trans (hb2.mono hB1.out.size));clear hv2 hb2)
   |(go_at_call 123
     refine(Kd _ (qS k Z16) (kG _ _) _ hV2.out).mono ?_
     rintro e w3 ⟨v3,rfl,hv3,hb3⟩
     have hV3:=iH hv3.bs;have hB3:=iH (hB2.out.trans (hb3.mono hB2.out.size));clear hv3 hb3))
  all_goals(go_wp2_with fail;go_meet;exact⟨hV3.out,Below.undrew hB3.out⟩)
 case rest=>
 obtain⟨hk6,hB⟩:=hcut
 obtain⟨w1,rfl⟩:∃w1,w1=wc:=⟨_,rfl⟩
 obtain⟨v1,rfl⟩:∃v1,v1=u6:=⟨_,rfl⟩
 have HK6:=iH hk6;have HB:=iH hB
 have Hsrc:=iH ((Hb.out.lift hB).src).2
 have h0:w1.ownsRow w1.heap.size 5 1 (.slice none 0 0) 0 []:=World.ownsRow_nil _ _ _ _
 have H0:=iH h0
 clear hk6 hB h0
 go_upto_region 5 with (first
  |(at_builtin
    (with_reducible refine jp _ rfl (.const (.slice none 0 0)) (.tmp 19) 27 rfl w1.heap.size 5 (.int .u8 0) 1 Tryz.underlying27 kJ rfl (by omega) (.slice none 0 0) 0 [] rfl H0.out A0 b.length c0 (b.map U8) rfl Hsrc.out (by have:=Lb.out;omega) iL ?_)
    intro v2 w2 hown2 hg2 _ _
    have hb2:=jn H0.out hg2 iL iL
    have hown2:w2.ownsRow w1.heap.size 5 1 v2 b.length (b.map U8):=by simpa using hown2
    have Hown2:=iH hown2;have HB2:=iH hb2
    clear hown2 hg2 hb2))
 obtain⟨o,Ho⟩:∃o:Bool,Hid (o=decide (kI b)):=⟨_,iH rfl⟩
 go_cut [29] from 21 to 29 (fun c wx=>c=.bool o/\wx=w2)
 case first=>
  exact m0w
 case rest=>
 obtain⟨rfl,hw2⟩:=hcut
 subst hw2
 go_upto_if 29 with (fail)
 go_cut [6,7] from 14 to 33 (fun vk vx wx=>∃B,Bs wx B vk (zF k b)/\wx.ownsRow B 5 1 vx (qR b).length ((qR b).map U8)/\w.heap.size<=B/\Below w.heap.size w wx/\B<=wx.heap.size)
 case first=>
  cases o with
  |true=>
   have ho:kI b:=of_decide_eq_true Ho.out.symm
   have eK:zF k b=j47 (j0y k):=iT ho
   have eX:qR b=xW b:=iT ho
   clear ho
   go_wp2_with fail
   refine(Kd v1 (j0y k) (QL k) _ (HK6.out.lift HB2.out)).mono ?_
   rintro e w4 ⟨v4,rfl,h1,h2⟩
   have hb4:=HB.out.trans ((HB2.out.trans (h2.mono HB2.out.size)).mono HB.out.size)
   have H1:=iH h1.bs;have H4:=iH hb4;clear h1 h2 hb4
   go_wp2_with fail
   refine(QH _ b Lb.out w4 (Hb.out.lift H4.out)).mono ?_
   rintro e w5 ⟨v5,rfl,h3,h4⟩
   have H5:Hid (∃B,Bs w5 B v4 (zF k b)/\w5.ownsRow B 5 1 v5 (qR b).length ((qR b).map U8)/\w.heap.size<=B/\Below w.heap.size w w5/\B<=w5.heap.size):=by
    rw [eK,eX]
    exact⟨w4.heap.size,H1.out.below h4,h3,H4.out.size,H4.out.trans (h4.mono H4.out.size),h4.size⟩
   clear h3 h4 eK eX
   go_wp2_with fail
   go_meet
   exact H5.out
  |false=>
   have ho:¬kI b:=of_decide_eq_false Ho.out.symm
   have eK:zF k b=j0y k:=iF ho
   have eX:qR b=b:=iF ho
   have H5:Hid (∃B,Bs wc B v1 (zF k b)/\wc.ownsRow B 5 1 v2 (qR b).length ((qR b).map U8)/\w.heap.size<=B/\Below w.heap.size w wc/\B<=wc.heap.size):=by
    rw [eK,eX]
    exact⟨w1.heap.size,HK6.out.below HB2.out,Hown2.out,HB.out.size,HB.out.trans (HB2.out.mono HB.out.size),HB2.out.size⟩
   clear eK eX ho
   go_wp2_with fail
   go_meet
   exact H5.out
 case rest=>
 obtain⟨B,hk7,hx9,hwB,hBw,hBs⟩:=hcut
 obtain⟨m,hm⟩:=JK b
 obtain⟨x,hX⟩:∃x,x=qR b:=⟨_,rfl⟩
 obtain⟨kk,hKK⟩:∃kk,kk=zF k b:=⟨_,rfl⟩
 have hkl:kk.length=16:=by rw [hKK,Xe]
 rw [<-hX]at hx9 hm
 rw [<-hKK]at hk7
 obtain⟨M,hM⟩:∃M,M=16*m:=⟨_,rfl⟩
 rw [<-hM]at hm
 have hM2:M+16<=140737488355328:=by
  rw [<-hm,hX];have:=Lb.out;unfold qR;split
  ·rw [kH];have:=q7 b.length;omega
  ·omega
 rw [hm,QQ x (M+16) hm]at hx9
 obtain⟨g,cap,rfl,hg1,hg2,hcap⟩:=kU hx9 (by omega)
 obtain⟨ak,ck,rfl,hck,_,_,hcell⟩:=hk7
 obtain⟨kb,ko,rfl,hkb,hkx⟩:=hcell (by omega)
 rw [hkl]at hkx hck
 rw [hkl]
 have HX:=iH hX;have HKK:=iH hKK;have HM:=iH hm;have HMM:=iH hM;have HBW:=iH hBw;have HX9:=iH hx9;have HKX:=iH hkx;have HWB:=iH hwB;have HBS:=iH hBs
 obtain⟨w3,hw3⟩:∃w3,w3=wc:=⟨_,rfl⟩
 rw [<-hw3]at HBW HX9 HKX HBS hg2 |-
 clear hX hKK hkl hm hM hBw hx9 hkx hcell hwB hBs hw3 HK6 HB Hsrc H0 Hown2 HB2
 go_wp2_with fail
 go_loopw [8] (fun i wr=>∃n:Nat,n<=16/\i=.int .i64 n/\wr.ownsRow B 5 1 (.slice (some ⟨g,0,none⟩) (M+16) cap) (M+16) (zE (M+16) (KA x kk M n))/\Below B w3 wr) (fun i _=>16 - (intOf i).toNat)
 case atStart=>exact⟨0,by omega,rfl,by rw [Uk];exact HX9.out,Below.refl _ _⟩
 case round=>
  obtain⟨n,hn,rfl,hown,hB⟩:=hrel
  have Hown2:=iH hown;have HB2:=iH hB;clear hown hB
  by_cases hlt:n<16
  ·have hd:decide ((n:Int)<16)=true:=by simp;omega
   have c1:wr.cell? ⟨g,M+n,none⟩=some (U8 (gb x (M+n))):=by rw [Hown2.out.cellAt (M+n) (by omega),xH _ _ _ (by omega),j2i]
   have f1:=Hown2.out.frozenAt (M+n)
   have c2:wr.cell? ⟨kb,ko+n,none⟩=some (U8 (gb kk n)):=(HB2.out.cell (p:=⟨kb,ko+n,none⟩) hkb).trans (HKX.out n hlt)
   have n1:(n:Int)<16:=by omega
   have n2:(0:Int)<=M+n:=by omega
   have n3:(M:Int)+n<M+16:=by omega
   have n4:((M:Int)+n).toNat=M+n:=by omega
   have hw2:IntKind.i64.wrap ((M:Int)+n)=M+n:=IntWalk.i64_in _ ⟨by omega,by omega⟩
   have s0:Value.int .i64 (IntKind.i64.wrap ((M:Int)+n))=.int .i64 (M+n):=congrArg _ hw2
   clear hw2
   have hw1:IntKind.i64.wrap ((M:Int)+n)=M+n:=IntWalk.i64_in _ (by omega)
   have HW1:=iH hw1;clear hw1
   have hw0:IntKind.i64.wrap (M:Int)=M:=IntWalk.i64_in _ (by omega)
   have HW0:=iH hw0;clear hw0
   go_wp2
   refine wp_region_still_tail 14 (by kernel_rfl) (by kernel_rfl) ?_
   simp only [List.take_succ_cons,List.take_zero,List.drop_succ_cons,List.drop_zero]
   have hw0:=HW0.out
   iterate 4 (refine wpStill_step (fun K hK=> ?_);go_simp;(try go_bits);refine hK _ ?_;clear hK K)
   clear hw0
   have hw1:=HW1.out
   iterate 2 (refine wpStill_step (fun K hK=> ?_);go_simp;(try go_bits);refine hK _ ?_;clear hK K)
   clear hw1
   repeat(refine wpStill_step (fun K hK=> ?_);go_simp;(try go_bits);refine hK _ ?_;clear hK K)
   refine wpStill_nil ?_
   go_wp2
   go_roundw
   case rel=>
    obtain⟨h1,h2⟩:=Hown2.out.stored (M+n) (U8 (gb x (M+n) ^^^ gb kk n))
    rw [VE]at h1
    exact m3s
   case measure=>simp [intOf]<;>omega
  ·have hn16:n=16:=by omega
   subst hn16
   have h1:=Hown2.out
   rw [Uj HM.out]at h1
   have hL:(qw x kk).length=16*(m+1):=by rw [xT _ (by rw [HM.out];omega),HM.out,HMM.out];omega
   have hbs:Bs wr wr.heap.size (.slice (some ⟨g,0,none⟩) (M+16) cap) (qw x kk):=(BsS.of_own h1 (by rw [hL];have:=HMM.out;omega)).keep fun _ hg _=>⟨rfl,hg.2⟩
   have hbw:=HBW.out.trans (HB2.out.mono HWB.out)
   have C6:=iH (Ji (.slice A1 16 c1) (.slice (some ⟨wr.heap.size,0,none⟩) 16 16) (.slice (some ⟨g,0,none⟩) (M+16) cap) k Z16 (qw x kk) (m+1) Lk.out qK hL (wz wr) ((Hk.out.lift hbw).lift (k7 wr)) (Ku wr).bs (hbs.lift (k7 wr)))
   have HL:=iH hL;have HBw:=iH (hbw.trans ((k7 wr).mono hbw.size))
   clear h1 hL hbs hbw
   go_wp2_with fail
   refine C6.out.mono ?_
   rintro e w7 ⟨v7,rfl,hv7,hb7⟩
   have hl7:(q9 k Z16 (qw x kk)).length=M+16:=by rw [xE k Z16 (qw x kk) HL.out,Km,HMM.out];omega
   obtain⟨A7,n7,c7,rfl⟩:=hv7.form
   obtain rfl:n7=M+16:=by have:=Bs.lenEq hv7;omega
   have hc7:M+16<=c7:=by obtain⟨_,_,e,h,_⟩:=hv7;injection e with _ _ e3;omega
   obtain⟨zb,zo,rfl⟩:=QY hv7 (by omega)
   have c8:=Yg hv7.bs M (by omega) 16 (c7 - M) (by omega) rfl
   have e8:xy k b=(q9 k Z16 (qw x kk)).drop M:=by unfold xy;rw [iT Lk.out,<-HX.out,<-HKK.out,HM.out,Nat.add_sub_cancel]
   rw [<-e8]at c8
   have Hfin:=iH (show Bs w7 w7.heap.size (.slice (some ⟨zb,zo+M,none⟩) 16 (c7 - M)) (xy k b)/\Below w.heap.size w w7 from⟨c8,HBw.out.trans (hb7.mono HBw.out.size)⟩)
   have n3:¬c7=M:=by omega
   have n2:(M:Int)<=(M:Int)+16:=by omega
   clear c8 e8 hv7 hb7 hl7
   have hw:wrap64 (M:Int)=M:=IntWalk.wrap64_in _ (by omega)
   go_wp2_with fail
   go_ret2
   exact⟨_,rfl,Hfin.out⟩
theorem y7{k:List UInt8}(hk:k.length=16)(b:List UInt8):(xy k b).length=16:=by
 obtain⟨m,hm⟩:=JK b
 have h:(qw (qR b) (zF k b)).length=16*(m+1):=by rw [xT _ (by omega),hm];omega
 unfold xy
 rw [iT hk,xE k Z16 _ h,List.length_drop,Km,hm]
 omega
section
variable(vk vb:Value)(k b:List UInt8)(hk:k.length=16)(hl:b.length<=140737488351232)(w:World)(hvk:Bs w w.heap.size vk k)(hvb:Bs w w.heap.size vb b)
include vk vb k b hk hl w hvk hvb
theorem zQ:
 Calls Tryz.prog 69 #[vk,vb] w fun e w'=>∃v',e=.returned (.tuple #[v',.int .i64 0])/\Bs w' w'.heap.size v' ((xy k b).take 8)/\Below w.heap.size w w':=by
 have C:=iH (UD vk vb k b hk hl w hvk hvb)
 have L:=iH (y7 hk b)
 clear hvk hvb hk hl
 go_enter Tryz.func69,Tryz.ntmps69
 go_wp2_with fail
 refine C.out.mono ?_
 rintro e w1 ⟨v1,rfl,hv0,hB⟩
 have hv1:Bs w1 w1.heap.size v1 (xy k b):=hv0
 clear hv0
 obtain⟨A1,n1,c1,rfl⟩:=hv1.form
 obtain rfl:n1=16:=by rw [Bs.lenEq hv1];exact L.out
 have hc1:16<=c1:=by obtain⟨_,_,e,h,_⟩:=hv1;rw [L.out]at h;injection e with _ _ e3;omega
 have Hfin:=iH (show Bs w1 w1.heap.size (.slice A1 8 c1) ((xy k b).take 8)/\Below w.heap.size w w1 from⟨Bs.cutTo hv1 8 (by rw [L.out];omega),hB⟩)
 clear hv1 hB
 have n1:(8:Int)<=c1:=by omega
 have n2:8<=c1:=by omega
 go_wp2_with fail
 go_ret2
 exact⟨_,rfl,Hfin.out⟩
theorem j1w:
 Calls Tryz.prog 116 #[vk,vb] w fun e w'=>∃v',e=.returned (.tuple #[v',.int .i64 0])/\OwnB w' w.heap.size v' (xy k b)/\Below w.heap.size w w':=by
 obtain⟨A0,n0,c0,rfl⟩:=hvb.form
 have hn:=Bs.lenEq hvb
 subst hn
 have Hk:=iH hvk;have Hb:=iH hvb;have Lk:=iH hk;have Lb:=iH hl;have Hm:=KM;clear hvk hvb hk hl
 go_enter Tryz.func116,Tryz.ntmps116
 go_upto_if 34 with (fail)
 refine(Jc vk _ k Z16 Lk.out qK (wz w) (Hk.out.lift (k7 w)) (Ku w).bs).mono ?_
 rintro e w1 ⟨v1,rfl,hv1,hB1⟩
 have hv1:Bs w1 w1.heap.size v1 (qS k Z16):=by unfold qS;exact hv1
 have HB1:=iH hB1;have HV1:=iH hv1;clear hB1 hv1;clear hv1
 go_upto_if 34 with (fail)
 refine(JN v1 (qS k Z16) (kG _ _) w1 HV1.out).mono ?_
 rintro e w2 ⟨v2,rfl,hv2,hB2⟩
 have HB2:=iH (HB1.out.trans (hB2.mono HB1.out.size));have HV2:=iH hv2.bs;clear hB2 hv2
 go_upto_if 34 with (fail)
 refine(kR _ b _ ((Hb.out.lift (k7 w)).lift HB2.out)).mono ?_
 rintro e w3 ⟨v3,rfl,hown,hB3⟩
 have HB3:=iH (HB2.out.trans (hB3.mono HB2.out.size));have HV3:=iH (HV2.out.lift hB3);have Hown:=iH hown;clear hB3 hown
 go_upto_region 7 with (fail)
 obtain⟨o,Ho⟩:∃o:Bool,Hid (o=decide (kI b)):=⟨_,iH rfl⟩
 go_cut [34] from 26 to 34 (fun c wc=>c=.bool o/\wc=w3)
 case first=>
  exact m0w
 case rest=>
 obtain⟨rfl,rfl⟩:=hcut
 go_upto_if 34 with (fail)
 go_cut [7,9] from 13 to 41 (fun vk vx wc=>Bs wc wc.heap.size vk (zF k b)/\OwnB wc (wz w).heap.size vx (qR b)/\Below (wz w).heap.size (wz w) wc)
 case first=>
  cases o with
  |true=>
   have ho:kI b:=of_decide_eq_true Ho.out.symm
   have eK:zF k b=j47 (j0y k):=iT ho
   have eX:qR b=xW b:=iT ho
   have Rest:∀w4,Below wc.heap.size wc w4->Calls Tryz.prog 83 #[.slice A0 b.length c0] w4 (fun e w5=>∃v5,e=.returned v5/\OwnB w5 w4.heap.size v5 (xW b)/\Below w4.heap.size w4 w5):=
    fun w4 h4=>ZF _ b Lb.out w4 (((Hb.out.lift (k7 w)).lift HB3.out).lift h4)
   have Fin:∀w4 v4 w5 v5,BsS w4 (New wc w4) v4 (j47 (j0y k))->Below wc.heap.size wc w4->OwnB w5 w4.heap.size v5 (xW b)->Below w4.heap.size w4 w5->Bs w5 w5.heap.size v4 (zF k b)/\OwnB w5 (wz w).heap.size v5 (qR b)/\Below (wz w).heap.size (wz w) w5:=by
    intro w4 v4 w5 v5 h1 h2 h3 h4
    rw [eK,eX]
    refine⟨h1.bs.lift h4,QA h3 (Nat.le_trans HB3.out.size h2.size),(HB3.out.trans (h2.mono HB3.out.size)).trans (h4.mono (Nat.le_trans HB3.out.size h2.size))⟩
   have REST:=iH Rest;have FIN:=iH Fin
   clear Rest Fin eK eX ho
   go_wp2_with fail
   refine(JN v2 (j0y k) (QL k) _ HV3.out).mono ?_
   rintro e w4 ⟨v4,rfl,h1,h2⟩
   have H1:=iH h1;have H2:=iH h2;clear h1 h2
   go_wp2_with fail
   refine(REST.out w4 H2.out).mono ?_
   rintro e w5 ⟨v5,rfl,h3,h4⟩
   have H5:=iH (FIN.out _ _ _ _ H1.out H2.out h3 h4)
   clear h3 h4
   go_wp2_with fail
   go_meet
   exact H5.out
  |false=>
   have ho:¬kI b:=of_decide_eq_false Ho.out.symm
   have eK:zF k b=j0y k:=iF ho
   have eX:qR b=b:=iF ho
   have H5:Hid (Bs wc wc.heap.size v2 (zF k b)/\OwnB wc (wz w).heap.size v3 (qR b)/\Below (wz w).heap.size (wz w) wc):=by
    rw [eK,eX]
    exact⟨HV3.out,QA Hown.out HB2.out.size,HB3.out⟩
   clear eK eX ho
   go_wp2_with fail
   go_meet
   exact H5.out
 case rest=>
 obtain⟨hk7,hx9,hB⟩:=hcut
 obtain⟨m,hm⟩:=JK b
 obtain⟨x,hX⟩:∃x,x=qR b:=⟨_,rfl⟩
 obtain⟨kk,hKK⟩:∃kk,kk=zF k b:=⟨_,rfl⟩
 have hkl:kk.length=16:=by rw [hKK,Xe]
 rw [<-hX]at hx9 hm
 rw [<-hKK]at hk7
 have hbs:=(BsS.of_own hx9 (by have:=Lb.out;rw [hX];unfold qR;split;(rw [kH];have:=q7 b.length;omega);omega)).keep (w':=wc) (S':=fun b=>b<wc.heap.size) fun g hg _=>⟨rfl,hg.2⟩
 obtain⟨M,hM⟩:∃M,M=16*m:=⟨_,rfl⟩
 rw [<-hM]at hm
 obtain⟨hl9,hx9⟩:=hx9
 rw [hm]at hx9
 rcases hx9 with ⟨_,h0⟩|⟨g,cap,cur,rfl,hg,hh,hc,hcm,hsz,htk⟩
 ·exact absurd h0 (by omega)
 rw [Nat.mul_one]at hsz htk
 have HH:=iH hh;have HG:=iH hg;have HC:=iH hcm;have HS:=iH hsz;have HT:=iH htk;have HX:=iH hX;have HKK:=iH hKK;have HKL:=iH hkl;have HM:=iH hm;have HB:=iH hB;have HK:=iH hk7;have HBS:=iH hbs;have HMM:=iH hM
 clear hh hg hcm hsz htk hX hKK hkl hm hB hk7 hbs hM hl9 HB1 HV1 HB2 HV2 HB3 HV3 Hown Hm
 have hM2:M+16<=140737488355328:=by have:=HBS.out.len;rw [HM.out]at this;omega
 have hcM:M+16<=cap:=hc
 have hw:wrap64 (M:Int)=M:=IntWalk.wrap64_in _ (by omega)
 have n1:¬cap=M:=by omega
 have n2:(M:Int)<=(M:Int)+16:=by omega
 have hsl:Bs wc wc.heap.size (.slice (some ⟨g,M,none⟩) 16 (cap - M)) (x.drop M):=by
  have h:=j6k HBS.out M (by rw [HM.out];omega)
  rwa [Nat.zero_add,Nat.add_sub_cancel_left]at h
 have HSL:=iH hsl;clear hsl
 have hcur:cur.toList.toArray=cur:=by simp
 have HCUR:=iH hcur
 clear hcur
 have c5:Calls Tryz.prog 108 #[.slice (some ⟨g,M,none⟩) 16 (cap - M),u7] wc.drew fun e w5=>∃A5 c5,e=.returned (.slice A5 16 c5)/\Hid (SrcAt w5 A5 16 ((qY (x.drop M) kk).map U8))/\Hid (w5.heap[g]?=some (.cells cur.toList.toArray 5 (0,0)))/\Hid (Below (wz w).heap.size (wz w) w5):=by
  refine(Qi _ _ (x.drop M) kk (by rw [List.length_drop,HM.out];omega) HKL.out wc.drew HSL.out HK.out).mono ?_
  rintro e w5 ⟨v5,rfl,hv5,hb5⟩
  obtain⟨A5,n5,c5,rfl⟩:=hv5.form
  obtain⟨hn5,hsrc⟩:=hv5.src
  obtain rfl:n5=16:=by rw [hn5,kh]
  refine⟨A5,c5,rfl,iH hsrc,?_,iH (HB.out.drew.trans (hb5.mono HB.out.size))⟩
  rw [HCUR.out]
  exact iH ((hb5.block g (iG HH.out)).trans HH.out)
 have C5:=iH c5;clear c5
 go_upto_region 10 with (fail)
 go_region_law (first
  |(refine step_copy_splice rfl (.tmp 44) (.tmp 49) 27 27 rfl 5 Tryz.underlying27 (by kernel_rfl) (some ⟨g,M,none⟩) A5 16 (cap - M) 16 c5 (by simp [Act.eval]) (by simp [Act.eval]) g M cur.toList 5 HH5.out ((qY (x.drop M) kk).map U8) (by rw [List.length_map,kh]<;>rfl) (fun _=>⟨rfl,HSRC.out.2.1 (by omega)⟩) (by rw [List.length_map,kh,Array.length_toList];have:=HS.out;omega) HSRC.out.2.2 (wz w).heap.size (wz w) HB5.out HG.out ?_
    intro w6 h6 hb6)
  |(go_simp
    go_at_call 108
    refine C5.out.mono ?_
    rintro e w5 ⟨A5,c5,rfl,HSRC,HH5,HB5⟩))
 have hown6:=Uz (kk:=kk) HM.out HG.out (by rw [Array.length_toList];exact HS.out) hcM HC.out HT.out h6.out
 have hL:(qw x kk).length=16*(m+1):=by rw [xT _ (by rw [HM.out];omega),HM.out,HMM.out];omega
 have hbs6:Bs w6 w6.heap.size (.slice (some ⟨g,0,none⟩) (M+16) cap) (qw x kk):=(BsS.of_own hown6 (by rw [hL];have:=HMM.out;omega)).keep fun _ hg _=>⟨rfl,hg.2⟩
 have C6:=iH (j0r vk (.slice (some ⟨w.heap.size,0,none⟩) 16 16) (.slice (some ⟨g,0,none⟩) (M+16) cap) k Z16 (qw x kk) (m+1) Lk.out qK hL w6 ((Hk.out.lift (k7 w)).lift hb6) ((Ku w).bs.lift hb6) hbs6)
 have HL:=iH hL;have HB6:=iH hb6
 clear hown6 hL hbs6 hb6 h6
 go_wp2_with fail
 refine C6.out.mono ?_
 rintro e w7 ⟨v7,rfl,hv7,hb7⟩
 have hl7:(q9 k Z16 (qw x kk)).length=M+16:=by rw [xE k Z16 (qw x kk) HL.out,Km,HMM.out];omega
 obtain⟨A7,n7,c7,rfl⟩:=hv7.form
 obtain rfl:n7=M+16:=by have:=Bs.lenEq hv7;omega
 have hc7:M+16<=c7:=by obtain⟨_,_,e,h,_⟩:=hv7;injection e with _ _ e3;omega
 obtain⟨zb,zo,rfl⟩:=QY hv7 (by omega)
 have c8:=Yg hv7.bs M (by omega) 16 (c7 - M) (by omega) rfl
 have C8:=iH (kR _ _ w7 c8)
 have HB7:=iH (HB6.out.trans (hb7.mono HB6.out.size))
 have n3:¬c7=M:=by omega
 clear c8 hv7 hb7 hl7
 go_wp2_with fail
 refine C8.out.mono ?_
 rintro e w8 ⟨v8,rfl,hown,hb8⟩
 have hfin:OwnB w8 w.heap.size v8 (xy k b)/\Below w.heap.size w w8:=by
  have hb:=HB7.out.trans (hb8.mono HB7.out.size)
  have e:xy k b=(q9 k Z16 (qw x kk)).drop M:=by unfold xy;rw [iT Lk.out,<-HX.out,<-HKK.out,HM.out,Nat.add_sub_cancel]
  rw [e]
  exact⟨QA hown (Nat.le_trans (k7 w).size HB7.out.size),(k7 w).trans (hb.mono (k7 w).size)⟩
 have Hfin:=iH hfin;clear hfin hown hb8
 go_wp2_with fail
 go_ret2
 exact⟨v8,rfl,Hfin.out⟩
end
theorem OwnB.slot2{w:World}{base:Nat}{A:Option Addr}{c:Nat}{l:List UInt8}(h:OwnB w base (.slice A l.length c) l)(hl:0<l.length):
 ∃g,A=some ⟨g,0,none⟩/\base<=g/\g<w.heap.size/\l.length<=c/\c<=9223372036854775807/\(∀j,j<l.length->w.cell? ⟨g,j,none⟩=some (U8 (gb l j)))/\∀j,w.frozen? ⟨g,j,none⟩=false:=by
 have hc:=fun g=>World.ownsRow.cells h (g:=g)
 rcases h.2 with ⟨e,h0⟩|⟨g,cap,cur,hv,hb,hh,hn,hm,r⟩
 ·omega
 ·injection hv with e1 _ e3
  subst e1 e3
  refine⟨g,rfl,hb,(iG hh),hn,hm,fun j hj=> ?_,fun j=>by simp [World.frozen?,hh]⟩
  have:=hc g rfl j (U8 (gb l j)) (k9 l j hj)
  have e:(⟨g,0,none⟩:Addr).add j=⟨g,0+j,none⟩:=by unfold Addr.add;split<;>simp_all
  rwa [e,Nat.zero_add]at this
def OwnS(w:World)(base:Nat)(v:Value)(l:List UInt8):Prop:=∃g c,v=.slice (some ⟨g,0,none⟩) l.length c/\base<=g/\g<w.heap.size/\l.length<=c/\c<=9223372036854775807/\(∀j,j<l.length->w.cell? ⟨g,j,none⟩=some (U8 (gb l j)))/\∀o,w.frozen? ⟨g,o,none⟩=false
theorem OwnS.bs{w w0:World}{v:Value}{l:List UInt8}(h:OwnS w w0.heap.size v l)(hl:l.length<=140737488355328):BsS w (New w0 w) v l:=by
 obtain⟨g,c,e,h1,h2,h3,h4,h5,_⟩:=h
 exact⟨_,c,e,h3,h4,hl,fun _=>⟨g,0,rfl,⟨h1,h2⟩,fun j hj=>by rw [Nat.zero_add];exact h5 j hj⟩⟩
theorem OwnS.of_own{w:World}{base c:Nat}{A:Option Addr}{l:List UInt8}(h:OwnB w base (.slice A l.length c) l)(hl:0<l.length)(k:Nat)(hk:k<=l.length):OwnS w base (.slice A k k) (l.take k):=by
 obtain⟨g,rfl,h1,h2,h3,h4,h5,h6⟩:=OwnB.slot2 h hl
 have e:(l.take k).length=k:=by rw [List.length_take];omega
 refine⟨g,k,by rw [e],h1,h2,by omega,by omega,fun j hj=> ?_,h6⟩
 rw [h5 j (by omega)]
 simp only [gb,List.getD_eq_getElem?_getD]
 rw [List.getElem?_take,iT (by omega)]
theorem Vh(vk vb:Value)(k b:List UInt8)(hk:k.length=16)(hl:b.length<=140737488351232)(w:World)(hvk:Bs w w.heap.size vk k)(hvb:Bs w w.heap.size vb b):
 Calls Tryz.prog 88 #[vk,vb] w fun e w'=>∃v',e=.returned (.tuple #[v',.int .i64 0])/\OwnS w' w.heap.size v' ((xy k b).take 8)/\Below w.heap.size w w':=by
 have C:=iH (j1w vk vb k b hk hl w hvk hvb)
 have L:=iH (y7 hk b)
 clear hvk hvb hk hl
 go_enter Tryz.func88,Tryz.ntmps88
 go_wp2_with fail
 refine C.out.mono ?_
 rintro e w1 ⟨v1,rfl,hv0,hB⟩
 have hv1:Bs w1 w1.heap.size v1 (xy k b):=(hv0.out (by rw [L.out];omega) w iL).keep fun _ hs _=>⟨rfl,hs.2⟩
 obtain⟨A1,n1,c1,rfl⟩:=hv1.form
 obtain rfl:n1=16:=by rw [Bs.lenEq hv1];exact L.out
 have hv9:OwnB w1 w.heap.size (.slice A1 (xy k b).length c1) (xy k b):=by rw [L.out];exact hv0
 have hc1:16<=c1:=by obtain⟨_,_,e,h,_⟩:=hv1;rw [L.out]at h;injection e with _ _ e3;omega
 have Hfin:=iH (show OwnS w1 w.heap.size (.slice A1 8 8) ((xy k b).take 8)/\Below w.heap.size w w1 from⟨OwnS.of_own hv9 (by rw [L.out];omega) 8 (by rw [L.out];omega),hB⟩)
 clear hv1 hB hv0 hv9
 have n1:(8:Int)<=c1:=by omega
 have n2:8<=c1:=by omega
 go_wp2_with fail
 go_ret2
 exact⟨_,rfl,Hfin.out⟩
theorem OwnB.fresh(w:World)(l:List UInt8)(xs:Array Value)(hx:xs.toList=l.map U8)(base:Nat)(hb:base<=w.heap.size)(hl:l.length<=9223372036854775807):
 OwnB (w.alloc (.cells xs 5)) base (.slice (some ⟨w.heap.size,0,none⟩) l.length l.length) l:=by
 have hs:xs.size=l.length:=by rw [<-Array.length_toList,hx];simp
 refine⟨by simp,.inr ⟨w.heap.size,l.length,xs,rfl,hb,iN,Nat.le_refl _,hl,by omega,?_⟩⟩
 rw [hx,Nat.mul_one]
 exact List.take_of_length_le (by simp)
theorem BsS.fresh(w:World)(l:List UInt8)(xs:Array Value)(t:TypeId)(hx:xs.toList=l.map U8)(S:Nat->Prop)(hS:S w.heap.size)(hl:l.length<=140737488355328):
 BsS (w.alloc (.cells xs t)) S (.slice (some ⟨w.heap.size,0,none⟩) l.length l.length) l:=by
 refine⟨_,_,rfl,Nat.le_refl _,by omega,hl,fun _=>⟨w.heap.size,0,rfl,hS,fun j hj=> ?_⟩⟩
 rw [Nat.zero_add,cell_of_row _ _ _ _ _ _ (iN),<-Array.getElem?_toList,hx]
 exact k9 l j hj
theorem j2y{w w0:World}{v:Value}{l:List UInt8}(h:BsS w (New w0 w) v l):BsS w (xM w0.heap.size w (.slice none 0 0)) v l:=BsS.keep h fun g hg _=>⟨rfl,hg.2,by simp [Value.ownBlock],hg.1⟩
theorem j6q:kB 135:=⟨by decide,by decide⟩
theorem j48(w:World){base:Nat}(hb:base<=w.heap.size):OwnB (w.alloc (.cells #[.int .u8 1] 5)) base (.slice (some ⟨w.heap.size,0,none⟩) 1 1) [1]:=OwnB.fresh w [1] #[.int .u8 1] rfl base hb (by decide)
def j6(k N d:List UInt8):Ns:=if d= []then .nil else .cons 135 (1 :: q9 k (qS k N) (xW d)) .nil .nil
theorem j7p(vk v:Value)(k l:List UInt8)(h1:k.length=16)(h2:l.length=16)(w:World)(hk:Bs w w.heap.size vk k)(hv:Bs w w.heap.size v l):
 Calls Tryz.prog 109 #[vk,v] w fun e w'=>∃v',e=.returned (.tuple #[v',.int .i64 0])/\Bs w' w'.heap.size v' (qS k l)/\Below w.heap.size w w':=by
 have h:=Jc vk v k l h1 h2 w hk hv
 unfold qS
 exact h
section
variable(ua ub uc:Value)(un:Int)(k N:List UInt8)(lk:k.length=16)(ln:N.length=16)(w:World)(ha:Bs w w.heap.size ua k)(hc:Bs w w.heap.size uc N)
include ua ub uc un k N lk ln w ha hc
theorem JV:
 Calls Tryz.prog 82 #[.agg #[ua,ub,.int .i64 un,uc]] w fun e w'=>∃v',e=.returned v'/\Bs w' w'.heap.size v' (qS k N)/\Below w.heap.size w w':=by
 obtain⟨A1,n1,d1,rfl⟩:=ha.form
 obtain⟨A3,n3,d3,rfl⟩:=hc.form
 obtain⟨w0,hw0⟩:∃w0,w0=w.alloc (.cells #[.slice A1 n1 d1,ub,.int .i64 un,.slice A3 n3 d3] 77):=⟨_,rfl⟩
 have hB0:Below w.heap.size w w0:=by rw [hw0];exact iA
 have hh0:w0.heap[w.heap.size]?=some (.cells #[.slice A1 n1 d1,ub,.int .i64 un,.slice A3 n3 d3] 77 (0,0)):=by rw [hw0];exact iN
 have hlt0:=(iG hh0)
 have CS:Hid (∀W,Below w0.heap.size w0 W->W.cell? ⟨w.heap.size,0,none⟩=some (.slice A1 n1 d1)/\W.cell? ⟨w.heap.size,1,none⟩=some ub/\W.cell? ⟨w.heap.size,2,none⟩=some (.int .i64 un)/\W.cell? ⟨w.heap.size,3,none⟩=some (.slice A3 n3 d3)):=iH fun W h=>(by obtain⟨a,b,c,d,_⟩:=ki ((h.block w.heap.size hlt0).trans hh0);exact⟨a,b,c,d⟩)
 have HE:=iH (j7p _ _ k N lk ln w0 (ha.lift hB0) (hc.lift hB0))
 have HB0:=iH hB0;have HW0:=iH hw0
 clear ha hc hB0 hw0 hh0 hlt0 lk ln
 go_enter Tryz.func82,Tryz.ntmps82
 go_upto_region 1 with fail
 rw [<-HW0.out]
 obtain⟨c0,c1,c2,c3⟩:=CS.out w0 iB
 go_wp2_with(go_at_call 109;refine HE.out.mono ?_;rintro e w1 ⟨v1,rfl,hs,hb⟩;have HS:=iH hs;have HB1:=iH hb;clear hs hb c0 c1 c2 c3)
 go_ret
 exact⟨_,rfl,HS.out,HB0.out.trans (HB1.out.mono HB0.out.size)⟩
theorem Kl:
 Calls Tryz.prog 63 #[.agg #[ua,ub,.int .i64 un],uc] w fun e w'=>∃v',e=.returned v'/\Bs w' w'.heap.size v' (qS k N)/\Below w.heap.size w w':=by
 obtain⟨A1,n1,d1,rfl⟩:=ha.form
 obtain⟨A3,n3,d3,rfl⟩:=hc.form
 obtain⟨w0,hw0⟩:∃w0,w0=w.alloc (.cells #[.slice A1 n1 d1,ub,.int .i64 un] 29):=⟨_,rfl⟩
 have hB0:Below w.heap.size w w0:=by rw [hw0];exact iA
 have hh0:w0.heap[w.heap.size]?=some (.cells #[.slice A1 n1 d1,ub,.int .i64 un] 29 (0,0)):=by rw [hw0];exact iN
 have hlt0:=(iG hh0)
 have CS:Hid (∀W,Below w0.heap.size w0 W->W.cell? ⟨w.heap.size,0,none⟩=some (.slice A1 n1 d1)/\W.cell? ⟨w.heap.size,1,none⟩=some ub/\W.cell? ⟨w.heap.size,2,none⟩=some (.int .i64 un)):=iH fun W h=>(by obtain⟨a,b,c,_⟩:=j7 ((h.block w.heap.size hlt0).trans hh0);exact⟨a,b,c⟩)
 have HE:=iH (qp _ k lk w0 (ha.lift hB0))
 have HC:=iH (hc.lift hB0)
 have HB0:=iH hB0;have HW0:=iH hw0;have LN:=iH ln
 clear ha hc hB0 hw0 hh0 hlt0 lk ln
 go_enter Tryz.func63,Tryz.ntmps63
 go_upto_region 1 with fail
 rw [<-HW0.out]
 obtain⟨c0,c1,c2⟩:=CS.out w0 iB
 go_wp2_with(first
  |(go_at_call 93;refine(j5x p1 _ k N LN.out w1 HP.out (HC.out.lift HB1.out)).mono ?_;rintro e w2 ⟨v2,rfl,hs,hb⟩;have HS:=iH (BsS.rd hs);have HB2:=iH (HB1.out.trans (hb.mono HB1.out.size));clear hs hb)
  |(go_at_call 92;refine HE.out.mono ?_;rintro e w1 ⟨p1,rfl,hp,hb⟩;have HP:=iH hp;have HB1:=iH hb;clear hp hb c0 c1 c2))
 go_ret
 exact⟨_,rfl,HS.out,HB0.out.trans (HB2.out.mono HB0.out.size)⟩
end
theorem KN(ua ub uc vd:Value)(un:Int)(k N d:List UInt8)(lk:k.length=16)(ln:N.length=16)(ld:d.length<=4096)(w:World)(ha:Bs w w.heap.size ua k)(hc:Bs w w.heap.size uc N)(hd:Bs w w.heap.size vd d):
 Calls Tryz.prog 50 #[.agg #[ua,ub,.int .i64 un,uc],.slice none 0 0,vd] w fun e w'=>∃o,e=.returned o/\OwnN w' w.heap.size o (j6 k N d)/\Below w.heap.size w w':=by
 obtain⟨A1,n1,d1,rfl⟩:=ha.form
 obtain⟨A3,n3,d3,rfl⟩:=hc.form
 obtain⟨AD,nd,dd,rfl⟩:=hd.form
 obtain rfl:=Bs.lenEq hd
 obtain⟨w0,hw0⟩:∃w0,w0=w.alloc (.cells #[.slice A1 n1 d1,ub,.int .i64 un,.slice A3 n3 d3] 77):=⟨_,rfl⟩
 have hB0:Below w.heap.size w w0:=by rw [hw0];exact iA
 have hh0:w0.heap[w.heap.size]?=some (.cells #[.slice A1 n1 d1,ub,.int .i64 un,.slice A3 n3 d3] 77 (0,0)):=by rw [hw0];exact iN
 have hlt0:=(iG hh0)
 have CS:Hid (∀W,Below w0.heap.size w0 W->W.cell? ⟨w.heap.size,0,none⟩=some (.slice A1 n1 d1)/\W.cell? ⟨w.heap.size,1,none⟩=some ub/\W.cell? ⟨w.heap.size,2,none⟩=some (.int .i64 un)/\W.cell? ⟨w.heap.size,3,none⟩=some (.slice A3 n3 d3)):=iH fun W h=>(by obtain⟨a,b,c,d,_⟩:=ki ((h.block w.heap.size hlt0).trans hh0);exact⟨a,b,c,d⟩)
 have H1:=iH (ha.lift hB0);have H3:=iH (hc.lift hB0);have HD:=iH (hd.lift hB0)
 have HB:=iH hB0;have HW0:=iH hw0;have LN:=iH ln;have LK:=iH lk;have LD:=iH ld
 clear ha hc hd hB0 hw0 hh0 hlt0 lk ln ld
 by_cases h0:d= []
 ·subst h0
  go_enter Tryz.func50,Tryz.ntmps50
  exact m3f
 ·have t1:((d.length:Int)==0)=false:=by
   have:=List.length_pos_iff.2 h0
   simp
   exact h0
  have HNE:=iH h0
  clear h0
  obtain⟨V9,hV⟩:∃V,qS k N=V:=⟨_,rfl⟩
  obtain⟨P9,hP⟩:∃P,xW d=P:=⟨_,rfl⟩
  obtain⟨S9,hS⟩:∃S,q9 k V9 P9=S:=⟨_,rfl⟩
  have lv:V9.length=16:=by rw [<-hV];exact kG _ _
  have lp:P9.length=16*((d.length+1+zJ d.length) / 16):=by rw [<-hP];exact qx d
  have ls:S9.length=16*((d.length+1+zJ d.length) / 16):=by rw [<-hS,xE k V9 P9 lp,Km]
  have LP:Hid (P9.length<=5000):=iH (by have:=q7 d.length;have:=LD.out;omega)
  have hL1:Hid (S9.length<=5000):=iH (by have:=q7 d.length;have:=LD.out;omega)
  have HS9:Hid (q9 k (qS k N) (xW d)=S9):=iH (by rw [hV,hP];exact hS)
  have HVC:Hid (∀(ua ub uc:Value) (un:Int) (w:World),Bs w w.heap.size ua k->Bs w w.heap.size uc N->Calls Tryz.prog 82 #[.agg #[ua,ub,.int .i64 un,uc]] w fun e w'=>∃v',e=.returned v'/\Bs w' w'.heap.size v' V9/\Below w.heap.size w w'):=iH (fun ua ub uc un w h1 h2=>by rw [<-hV];exact JV ua ub uc un k N LK.out LN.out w h1 h2)
  have HPD:Hid (∀(v:Value) (w:World),Bs w w.heap.size v d->Calls Tryz.prog 83 #[v] w fun e w'=>∃v',e=.returned v'/\OwnB w' w.heap.size v' P9/\Below w.heap.size w w'):=iH (fun v w h=>by rw [<-hP];exact ZF v d (by have:=LD.out;omega) w h)
  have HSE:Hid (∀(vk vi vb:Value) (w:World),Bs w w.heap.size vk k->Bs w w.heap.size vi V9->Bs w w.heap.size vb P9->Calls Tryz.prog 81 #[vk,vi,vb] w fun e w'=>∃v',e=.returned (.tuple #[v',.int .i64 0])/\OwnB w' w.heap.size v' S9/\Below w.heap.size w w'):=iH (fun vk vi vb w h1 h2 h3=>by rw [<-hS];exact YH vk vi vb k V9 P9 _ LK.out lv lp w h1 h2 h3)
  clear hV hP hS lv lp ls
  go_enter Tryz.func50,Tryz.ntmps50
  go_upto_region 1 with fail
  rw [<-HW0.out]
  go_upto_region 3 with fail
  refine jc 13 [some 14,some 15,some 16,some 17,some 18,some 19,some 20,some 21,some 13,some 22,some 23,some 7,some 8] [[],[0],[0,1],[],[3],[],[3,4,5],[0,1,2,3,4,5,6],[0,1,2,3,4,5,6,7],[0,1,2,3,4,5,6,7,8],[0,1,2,3,4,5,6,7,8],[0,1,2,3,4,5,6,7,8,9],[0,1,2,3,4,5,6,7,8,9,10,11]]
   (fun _ _ w1=>Below w0.heap.size w0 w1) (fun w1 w2=>Below w1.heap.size w1 w2)
   [fun v _=>v 0=.pointer (some ⟨w.heap.size,0,none⟩),
    fun v _=>v 1=.pointer (some ⟨w.heap.size,0,none⟩),
    fun v _=>v 2=.slice A1 n1 d1,
    fun v _=>v 3=.agg #[.slice A1 n1 d1,ub,.int .i64 un,.slice A3 n3 d3],
    fun v w1=>∃a c,v 4=.slice a (V9).length c/\Bs w1 w1.heap.size (.slice a (V9).length c) (V9),
    fun v _=>v 5=.slice AD d.length dd,
    fun v w1=>∃a c,v 6=.slice a (P9).length c/\Bs w1 w1.heap.size (.slice a (P9).length c) (P9),
    fun v w1=>∃a c,v 7=.tuple #[.slice a (S9).length c,.int .i64 0]/\BsS w1 (New w w1) (.slice a (S9).length c) (S9),
    fun v w1=>∃a c,v 8=.tuple #[.slice a (S9).length c,.int .i64 0]/\BsS w1 (New w w1) (.slice a (S9).length c) (S9),
    fun v w1=>∃a c,v 9=.slice a (S9).length c/\BsS w1 (New w w1) (.slice a (S9).length c) (S9),
    fun v _=>v 10=.int .i64 0,
    fun v w1=>∃a c,v 11=.slice a (S9).length c/\BsS w1 (New w w1) (.slice a (S9).length c) (S9),
    fun v _=>v 12=.int .i64 0]
   (by kernel_rfl) (by kernel_rfl) (fun _=>iB.drew) ?st ?steps ?tail
  case st=>
   exact m0v
  case steps=>
   simp only [List.take_succ_cons,List.take_zero]
   refine(.cons ?_ (.cons ?_ (.cons ?_ (.cons ?_ (.cons ?_ (.cons ?_ (.cons ?_ (.cons ?_ (.cons ?_ (.cons ?_ (.cons ?_ (.cons ?_ (.cons ?_ .nil)))))))))))))
   all_goals(intro L v w1 hJ hL hA hF K hK;simp only [jf,Act.put,Nat.zero_add,Nat.reduceAdd,List.setIfInBounds_toArray,List.set_cons_zero,List.set_cons_succ]at hK |-)
   ·exact m6
   ·have e0:v 0=_:=hF 0 (hA 0 (by simp))
    simp only [e0]at hK
    exact m6
   ·have e1:v 1=_:=hF 1 (hA 1 (by simp))
    obtain⟨c0,c1,c2,c3⟩:=CS.out _ hJ
    simp only [e1]at hK
    exact m6
   ·obtain⟨c0,c1,c2,c3⟩:=CS.out _ hJ
    exact m6
   ·have e3:v 3=_:=hF 3 (hA 3 (by simp))
    simp only [e3]at hK
    go_simp
    refine(HVC.out _ _ _ _ w1 (H1.out.lift hJ) (H3.out.lift hJ)).mono ?_
    rintro e w5 ⟨v5,rfl,ho,hb⟩
    have hx:Bs w5 w5.heap.size v5 (V9):=ho
    exact m7
   ·exact m6
   ·have e5:v 5=_:=hF 5 (hA 5 (by simp))
    simp only [e5]at hK
    go_simp
    refine(HPD.out _ w1 (HD.out.lift hJ)).mono ?_
    rintro e w5 ⟨v5,rfl,ho,hb⟩
    have hx:Bs w5 w5.heap.size v5 (P9):=OwnB.rd ho (by have:=LP.out;omega)
    exact m7
   ·have e2:v 2=_:=hF 2 (hA 2 (by simp))
    simp only [e2]at hK
    obtain⟨a4,c4,e4,h4⟩:∃a c,v 4=_/\_:=hF 4 (hA 4 (by simp))
    obtain⟨a6,c6,e6,h6⟩:∃a c,v 6=_/\_:=hF 6 (hA 6 (by simp))
    simp only [e4,e6]at hK
    go_simp
    refine(HSE.out _ _ _ w1 (H1.out.lift hJ) h4 h6).mono ?_
    rintro e w5 ⟨v5,rfl,ho,hb⟩
    have hx:BsS w5 (New w w5) v5 S9:=(ho.out (by have:=hL1.out;omega) w (Nat.le_trans HB.out.size hJ.size))
    exact m7
   ·exact mg
   ·exact ma
   ·exact mw
   ·exact mh
   ·have e10:v 10=_:=hF 10 (hA 10 (by simp))
    simp only [e10]at hK
    exact m6
  case tail=>
   intro v w1 hJ hF
   have e0:v 0=_:=hF 0 (by simp)
   have e1:v 1=_:=hF 1 (by simp)
   have e2:v 2=_:=hF 2 (by simp)
   have e3:v 3=_:=hF 3 (by simp)
   have e5:v 5=_:=hF 5 (by simp)
   have e10:v 10=_:=hF 10 (by simp)
   have e12:v 12=_:=hF 12 (by simp)
   obtain⟨a11,c11,e11,h11⟩:∃a c,v 11=_/\_:=hF 11 (by simp)
   simp only [List.drop_succ_cons,List.drop_zero,jf,Act.put,Nat.zero_add,Nat.reduceAdd,List.setIfInBounds_toArray,List.set_cons_zero,List.set_cons_succ]
   simp only [e11]
   clear e0 e1 e2 e3 e5 e10 e11 e12
   have HS:=iH h11
   have HJ:=iH hJ
   have HBW:=iH (HB.out.trans (hJ.mono HB.out.size))
   clear h11 hJ hF
   have hal:Below w1.heap.size w1 (w1.alloc (.cells #[.int .u8 1] 5)):=iA
   have HAL:=iH hal
   clear hal
   go_wp2_with(first
    |(at_builtin;have M3:=HR3;((with_reducible refine jz rfl (.tmp 24) (.tmp 29) rfl w.heap.size (.slice none 0 0) .nil rfl (OwnN.nil _ _) 135 (1 :: S9) .nil (.slice rA (S9.length+1) rc) (.slice none 0 0) _ w3.heap.size rfl rfl j6q (j2y HR3.out) (NsS.nil0 _ _) (by decide) HB3.out.size ?_);intro o4 w4 hg4;have HO4:=iH hg4.1;have HB4:=iH (HB3.out.trans hg4.2.1);clear hg4))
    |(at_builtin;((with_reducible refine je rfl (.tmp 25) (.tmp 26) rfl w.heap.size (.slice (some ⟨w1.heap.size,0,none⟩) 1 1) [1] rfl (j48 w1 HBW.out.size) a11 S9.length c11 S9 (New w (w1.alloc (.cells #[.int .u8 1] 5))) rfl (BsS.keep HS.out fun g hg hl=>⟨HAL.out.block g hl,hg.1,iZ hg.2 HAL.out.size⟩) (by have:=hL1.out;simp;omega) (Nat.le_trans HBW.out.size HAL.out.size) ?_);intro v3 w3 hgr;have HR3:Hid (BsS w3 (New w w3) v3 (1 :: S9)):=iH (hgr.1.out (l:=1 :: S9) (by have:=hL1.out;simp;omega) w iL);obtain⟨rA,rc,hv3⟩:∃A c,v3=.slice A (S9.length+1) c:=(by obtain⟨A,c,e⟩:=hgr.1.form;exact⟨A,c,e⟩);subst hv3;have HB3:=iH ((HBW.out.trans (HAL.out.mono HBW.out.size)).trans (hgr.2.1:Below _ _ _));clear hgr)))
   go_ret
   exact⟨_,rfl,by unfold j6;rw [iF HNE.out,HS9.out];exact HO4.out,HB4.out⟩
theorem xm(t:Int)(v:Value)(l:List UInt8)(w:World)(hv:Bs w w.heap.size v l):Calls Tryz.prog 32 #[.int .i64 t,v] w fun e w'=>∃A c,e=.returned (.agg #[.int .i64 t,.slice A l.length c,.slice none 0 0])/\BsS w' (New w w') (.slice A l.length c) l/\Below w.heap.size w w':=by
 have hlen:=hv.len
 obtain⟨A1,n1,d1,rfl⟩:=hv.form
 obtain rfl:=Bs.lenEq hv
 obtain⟨w0,hw0⟩:∃w0,w0=w.alloc (.cells #[.int .i64 0,.slice none 0 0,.slice none 0 0] 61):=⟨_,rfl⟩
 have hB0:Below w.heap.size w w0:=by rw [hw0];exact iA
 have hh0:w0.heap[w.heap.size]?=some (.cells #[.int .i64 0,.slice none 0 0,.slice none 0 0] 61 (0,0)):=by rw [hw0];exact iN
 have hlt0:=(iG hh0)
 have HV:=iH (hv.lift hB0);have HB:=iH hB0;have HW0:=iH hw0;have HR:=iH hh0;have HL:=iH hlen
 have HZ:Hid (w0.heap.size=w.heap.size+1):=iH (by rw [hw0];simp)
 clear hv hB0 hw0 hh0 hlt0 hlen
 go_enter Tryz.func32,Tryz.ntmps32
 go_upto_region 1 with fail
 rw [<-HW0.out]
 go_wp2_with(at_builtin;(with_reducible refine je rfl (.const (.slice none 0 0)) (.tmp 6) rfl w0.heap.size (.slice none 0 0) [] rfl (OwnB.nil _ _) A1 l.length d1 l (·<w0.heap.size) rfl HV.out (by have:=HL.out;simp;omega) iL ?_);intro v1 w1 hgr;rw [List.nil_append]at hgr;obtain⟨A2,c2,hv1⟩:=hgr.1.form;subst hv1;have HO:=iH hgr.1;have HB1:=iH hgr.2.1;have hr1:=(hgr.2.1.block w.heap.size (by have:=HZ.out;omega)).trans HR.out;have HR1:=iH hr1;obtain⟨z0,z1,z2,zf⟩:=j7 hr1;have zf0:=zf 0;have zf1:=zf 1;have zf2:=zf 2;obtain⟨y0,y1,y2,_⟩:=j7 (qa (.int .i64 t) (.slice A2 l.length c2) (.slice none 0 0) hr1);clear zf hr1 hgr)
 refine bodyPost_ret (v:=.agg #[.int .i64 t,.slice A2 l.length c2,.slice none 0 0]) (by simp only [set3]at y0 y1 y2;simp [results,Tryz.results32,go_sem,y0,y1,y2]) rfl ?_
 have hz:=HZ.out
 have ho:=HO.out.out HL.out w0 iL
 exact⟨A2,c2,rfl,ho.keep fun g hg hl=>⟨jC (by have:=hg.1;omega),by have:=hg.1;omega,by simpa [set3]using hg.2⟩,kV (HB.out.trans (HB1.out.mono HB.out.size)) iL⟩
theorem j34(w:World)(t:Int)(ht:kB t)(A:Option Addr)(c:Nat)(v:List UInt8){base:Nat}(hb:base<=w.heap.size)(hv:BsS w (fun b=>base<=b/\b<w.heap.size) (.slice A v.length c) v)(ty:TypeId)(hty:ty=61):
 OwnN (w.alloc (.cells #[.int .i64 t,.slice A v.length c,.slice none 0 0] ty)) base (.slice (some ⟨w.heap.size,0,none⟩) 1 1) (.cons t v .nil .nil):=by
 subst hty
 refine⟨[.int .i64 t,.slice A v.length c,.slice none 0 0],⟨rfl,.inr ⟨w.heap.size,1,_,rfl,hb,iN,Nat.le_refl _,by decide,rfl,rfl⟩⟩,?_⟩
 refine⟨_,_,_,rfl,ht,BsS.keep hv fun g hg hl=>⟨Below.heap_alloc _ _ _ hl,iZ hl (by simp),fun e=>by
  have e2:w.heap.size=g:=by simpa [Value.ownBlock]using e
  omega,hg.1⟩,NsS.nil0 _ _,rfl⟩
theorem KT(ua ub uc vd:Value)(un:Int)(k N d:List UInt8)(lk:k.length=16)(ln:N.length=16)(ld:d.length<=4096)(w:World)(ha:Bs w w.heap.size ua k)(hc:Bs w w.heap.size uc N)(hd:Bs w w.heap.size vd d):
 Calls Tryz.prog 31 #[.agg #[ua,ub,.int .i64 un],uc,vd] w fun e w'=>∃o,e=.returned o/\OwnN w' w.heap.size o (j6 k N d)/\Below w.heap.size w w':=by
 obtain⟨A1,n1,d1,rfl⟩:=ha.form
 obtain⟨A3,n3,d3,rfl⟩:=hc.form
 obtain⟨AD,nd,dd,rfl⟩:=hd.form
 obtain rfl:=Bs.lenEq hd
 obtain⟨w0,hw0⟩:∃w0,w0=w.alloc (.cells #[.slice A1 n1 d1,ub,.int .i64 un] 29):=⟨_,rfl⟩
 have hB0:Below w.heap.size w w0:=by rw [hw0];exact iA
 have hh0:w0.heap[w.heap.size]?=some (.cells #[.slice A1 n1 d1,ub,.int .i64 un] 29 (0,0)):=by rw [hw0];exact iN
 have hlt0:=(iG hh0)
 have CS:Hid (∀W,Below w0.heap.size w0 W->W.cell? ⟨w.heap.size,0,none⟩=some (.slice A1 n1 d1)/\W.cell? ⟨w.heap.size,1,none⟩=some ub/\W.cell? ⟨w.heap.size,2,none⟩=some (.int .i64 un)):=iH fun W h=>(by obtain⟨a,b,c,_⟩:=j7 ((h.block w.heap.size hlt0).trans hh0);exact⟨a,b,c⟩)
 have H1:=iH (ha.lift hB0);have H3:=iH (hc.lift hB0);have HD:=iH (hd.lift hB0)
 have HB:=iH hB0;have HW0:=iH hw0;have LN:=iH ln;have LK:=iH lk;have LD:=iH ld
 clear ha hc hd hB0 hw0 hh0 hlt0 lk ln ld
 by_cases h0:d= []
 ·subst h0
  go_enter Tryz.func31,Tryz.ntmps31
  exact m3f
 ·have t1:((d.length:Int)==0)=false:=by
   have:=List.length_pos_iff.2 h0
   simp
   exact h0
  have HNE:=iH h0
  clear h0
  obtain⟨V9,hV⟩:∃V,qS k N=V:=⟨_,rfl⟩
  obtain⟨P9,hP⟩:∃P,xW d=P:=⟨_,rfl⟩
  obtain⟨S9,hS⟩:∃S,q9 k V9 P9=S:=⟨_,rfl⟩
  have lv:V9.length=16:=by rw [<-hV];exact kG _ _
  have lp:P9.length=16*((d.length+1+zJ d.length) / 16):=by rw [<-hP];exact qx d
  have ls:S9.length=16*((d.length+1+zJ d.length) / 16):=by rw [<-hS,xE k V9 P9 lp,Km]
  have LP:Hid (P9.length<=5000):=iH (by have:=q7 d.length;have:=LD.out;omega)
  have hL1:Hid (S9.length<=5000):=iH (by have:=q7 d.length;have:=LD.out;omega)
  have HS9:Hid (q9 k (qS k N) (xW d)=S9):=iH (by rw [hV,hP];exact hS)
  have HVC:Hid (∀(ua ub uc:Value) (un:Int) (w:World),Bs w w.heap.size ua k->Bs w w.heap.size uc N->Calls Tryz.prog 63 #[.agg #[ua,ub,.int .i64 un],uc] w fun e w'=>∃v',e=.returned v'/\Bs w' w'.heap.size v' V9/\Below w.heap.size w w'):=iH (fun ua ub uc un w h1 h2=>by rw [<-hV];exact Kl ua ub uc un k N LK.out LN.out w h1 h2)
  have HPD:Hid (∀(v:Value) (w:World),Bs w w.heap.size v d->Calls Tryz.prog 64 #[v] w fun e w'=>∃v',e=.returned v'/\OwnB w' w.heap.size v' P9/\Below w.heap.size w w'):=iH (fun v w h=>by rw [<-hP];exact QH v d (by have:=LD.out;omega) w h)
  have HSE:Hid (∀(vk vi vb:Value) (w:World),Bs w w.heap.size vk k->Bs w w.heap.size vi V9->Bs w w.heap.size vb P9->Calls Tryz.prog 62 #[vk,vi,vb] w fun e w'=>∃v',e=.returned (.tuple #[v',.int .i64 0])/\BsS w' (New w w') v' S9/\Below w.heap.size w w'):=iH (fun vk vi vb w h1 h2 h3=>by rw [<-hS];exact Ji vk vi vb k V9 P9 _ LK.out lv lp w h1 h2 h3)
  clear hV hP hS lv lp ls
  go_enter Tryz.func31,Tryz.ntmps31
  go_upto_region 1 with fail
  rw [<-HW0.out]
  go_upto_region 3 with fail
  refine jc 13 [some 13,some 14,some 15,some 16,some 17,some 18,some 19,some 20,some 12,some 21,some 22,some 7,some 8] [[],[0],[],[],[2,3],[],[2,3,4,5],[0,1,2,3,4,5,6],[0,1,2,3,4,5,6,7],[0,1,2,3,4,5,6,7,8],[0,1,2,3,4,5,6,7,8],[0,1,2,3,4,5,6,7,8,9],[0,1,2,3,4,5,6,7,8,9,10,11]]
   (fun _ _ w1=>Below w0.heap.size w0 w1) (fun w1 w2=>Below w1.heap.size w1 w2)
   [fun v _=>v 0=.pointer (some ⟨w.heap.size,0,none⟩),
    fun v _=>v 1=.slice A1 n1 d1,
    fun v _=>v 2=.agg #[.slice A1 n1 d1,ub,.int .i64 un],
    fun v _=>v 3=.slice A3 n3 d3,
    fun v w1=>∃a c,v 4=.slice a (V9).length c/\Bs w1 w1.heap.size (.slice a (V9).length c) (V9),
    fun v _=>v 5=.slice AD d.length dd,
    fun v w1=>∃a c,v 6=.slice a (P9).length c/\Bs w1 w1.heap.size (.slice a (P9).length c) (P9),
    fun v w1=>∃a c,v 7=.tuple #[.slice a (S9).length c,.int .i64 0]/\BsS w1 (New w w1) (.slice a (S9).length c) (S9),
    fun v w1=>∃a c,v 8=.tuple #[.slice a (S9).length c,.int .i64 0]/\BsS w1 (New w w1) (.slice a (S9).length c) (S9),
    fun v w1=>∃a c,v 9=.slice a (S9).length c/\BsS w1 (New w w1) (.slice a (S9).length c) (S9),
    fun v _=>v 10=.int .i64 0,
    fun v w1=>∃a c,v 11=.slice a (S9).length c/\BsS w1 (New w w1) (.slice a (S9).length c) (S9),
    fun v _=>v 12=.int .i64 0]
   (by kernel_rfl) (by kernel_rfl) (fun _=>iB.drew) ?st ?steps ?tail
  case st=>
   exact m0v
  case steps=>
   simp only [List.take_succ_cons,List.take_zero]
   refine(.cons ?_ (.cons ?_ (.cons ?_ (.cons ?_ (.cons ?_ (.cons ?_ (.cons ?_ (.cons ?_ (.cons ?_ (.cons ?_ (.cons ?_ (.cons ?_ (.cons ?_ .nil)))))))))))))
   all_goals(intro L v w1 hJ hL hA hF K hK;simp only [jf,Act.put,Nat.zero_add,Nat.reduceAdd,List.setIfInBounds_toArray,List.set_cons_zero,List.set_cons_succ]at hK |-)
   ·exact m6
   ·have e0:v 0=_:=hF 0 (hA 0 (by simp))
    obtain⟨c0,c1,c2⟩:=CS.out _ hJ
    simp only [e0]at hK
    exact m6
   ·obtain⟨c0,c1,c2⟩:=CS.out _ hJ
    exact m6
   ·exact m6
   ·have e2:v 2=_:=hF 2 (hA 2 (by simp))
    have e3:v 3=_:=hF 3 (hA 3 (by simp))
    simp only [e2,e3]at hK
    go_simp
    refine(HVC.out _ _ _ _ w1 (H1.out.lift hJ) (H3.out.lift hJ)).mono ?_
    rintro e w5 ⟨v5,rfl,ho,hb⟩
    have hx:Bs w5 w5.heap.size v5 (V9):=ho
    exact m7
   ·exact m6
   ·have e5:v 5=_:=hF 5 (hA 5 (by simp))
    simp only [e5]at hK
    go_simp
    refine(HPD.out _ w1 (HD.out.lift hJ)).mono ?_
    rintro e w5 ⟨v5,rfl,ho,hb⟩
    have hx:Bs w5 w5.heap.size v5 (P9):=OwnB.rd ho (by have:=LP.out;omega)
    exact m7
   ·have e1:v 1=_:=hF 1 (hA 1 (by simp))
    simp only [e1]at hK
    obtain⟨a4,c4,e4,h4⟩:∃a c,v 4=_/\_:=hF 4 (hA 4 (by simp))
    obtain⟨a6,c6,e6,h6⟩:∃a c,v 6=_/\_:=hF 6 (hA 6 (by simp))
    simp only [e4,e6]at hK
    go_simp
    refine(HSE.out _ _ _ w1 (H1.out.lift hJ) h4 h6).mono ?_
    rintro e w5 ⟨v5,rfl,ho,hb⟩
    have hx:BsS w5 (New w w5) v5 S9:=ho.keep fun g hg _=>⟨rfl,Nat.le_trans (Nat.le_trans HB.out.size hJ.size) hg.1,hg.2⟩
    exact m7
   ·exact mg
   ·exact ma
   ·exact mw
   ·exact mh
   ·have e10:v 10=_:=hF 10 (hA 10 (by simp))
    simp only [e10]at hK
    exact m6
  case tail=>
   intro v w1 hJ hF
   have e0:v 0=_:=hF 0 (by simp)
   have e1:v 1=_:=hF 1 (by simp)
   have e2:v 2=_:=hF 2 (by simp)
   have e3:v 3=_:=hF 3 (by simp)
   have e5:v 5=_:=hF 5 (by simp)
   have e10:v 10=_:=hF 10 (by simp)
   have e12:v 12=_:=hF 12 (by simp)
   obtain⟨a11,c11,e11,h11⟩:∃a c,v 11=_/\_:=hF 11 (by simp)
   simp only [List.drop_succ_cons,List.drop_zero,jf,Act.put,Nat.zero_add,Nat.reduceAdd,List.setIfInBounds_toArray,List.set_cons_zero,List.set_cons_succ]
   simp only [e11]
   clear e0 e1 e2 e3 e5 e10 e11 e12
   have HS:=iH h11
   have HJ:=iH hJ
   have HBW:=iH (HB.out.trans (hJ.mono HB.out.size))
   clear h11 hJ hF
   have HAL:Hid (Below w1.heap.size w1 (w1.alloc (.cells #[.int .u8 1] 5))):=iH (iA)
   go_wp2_with(first
    |(go_at_call 32;refine(xm 135 _ (1 :: S9) w3 HR3.out).mono ?_;rintro e w4 ⟨pA,pc,rfl,hs,hb⟩;have HP4:=iH (BsS.keep hs (w':=w4) (S':=fun b=>w.heap.size<=b/\b<w4.heap.size) fun g hg _=>⟨rfl,Nat.le_trans HB3.out.size hg.1,hg.2⟩);have HB4:=iH (HB3.out.trans (hb.mono HB3.out.size));clear hs hb)
    |(go_at_call 65;refine(zl _ _ [1] S9 _ _ (w1.alloc (.cells #[.int .u8 1] 5)) ((j48 w1 iL).rd (by decide)) (BsS.keep HS.out (w':=w1.alloc (.cells #[.int .u8 1] 5)) (S':=(·<(w1.alloc (.cells #[.int .u8 1] 5)).heap.size)) fun g hg hl=>⟨HAL.out.block g hl,iZ hg.2 HAL.out.size⟩) (by have:=hL1.out;simp;omega)).mono ?_;rintro e w3 ⟨v3,rfl,ho,hb⟩;have HR3:Hid (Bs w3 w3.heap.size v3 (1 :: S9)):=iH (OwnB.rd ho (by have:=hL1.out;simp;omega));have HB3:=iH (HBW.out.trans ((HAL.out.trans (hb.mono HAL.out.size)).mono HBW.out.size));clear ho hb))
   go_ret
   have hf:=j34 w4 135 j6q pA pc (1 :: S9) HB4.out.size HP4.out 61 rfl
   exact⟨_,rfl,by unfold j6;rw [iF HNE.out,HS9.out];exact hf,HB4.out.trans ((iA).mono HB4.out.size)⟩
def kC(k2 N head b:List UInt8):List UInt8:=(xy k2 (N++(head++b))).take 8
theorem Yi{L:Ns}{b:List UInt8}(h:qG L=.ok b):b.length<=4096:=by
 unfold qG at h
 split at h
 ·cases h
 ·split at h
  ·cases h
  ·split at h
   ·cases h
   ·injection h with e;rw [<-e];omega
theorem Ql{L:Ns}{x:Int}(h:qG L=.error x):(x==0)=false:=by
 unfold qG at h
 split at h
 ·rename_i h1;injection h with e;rw [<-e];simpa using h1
 ·split at h
  ·injection h with e;rw [<-e]<;>rfl
  ·split at h
   ·injection h with e;rw [<-e]<;>rfl
   ·cases h
theorem Ns.len_all(L:Ns):L.len<=L.all:=by
 induction L with
 |nil=>exact Nat.le_refl _
 |cons a b k r _ ih=>simp only [Ns.len,Ns.all];omega
theorem qW{w0 w1:World}{base:Nat}{o v:Value}{L:Ns}{l:List UInt8}(hO:OwnN w0 base o L)(hs:BsS w1 (New w0 w1) v l)(hb:Below w0.heap.size w0 w1)(hbase:base<=w0.heap.size):BsS w1 (xM base w1 o) v l:=
 BsS.keep hs fun g hg _=>⟨rfl,hg.2,fun e=>by have:=(OwnN.lt hO e).2;omega,Nat.le_trans hbase hg.1⟩
section
variable(ua ub uc vh o:Value)(un:Int)(k2 N head:List UInt8)(L:Ns)(l2:k2.length=16)(ln:N.length=16)(lh:head.length<=100)(ha:L.all<=10)(hle:L.enc.length<=10000)
include ua ub uc vh o un k2 N head L l2 ln lh ha hle
theorem Qr(b:List UInt8)(hE:qG L=.ok b)(w:World)(hb:Bs w w.heap.size ub k2)(hc:Bs w w.heap.size uc N)(hh:Bs w w.heap.size vh head)(hO:NsS w (·<w.heap.size) o L):
 Calls Tryz.prog 56 #[.agg #[ua,ub,.int .i64 un,uc],vh,o] w fun e w'=>∃A c,e=.returned (.tuple #[.slice A (kC k2 N head b).length c,.int .i64 0])/\BsS w' (New w w') (.slice A (kC k2 N head b).length c) (kC k2 N head b)/\Below w.heap.size w w':=by
 obtain⟨A2,n2,d2,rfl⟩:=hb.form
 obtain⟨A3,n3,d3,rfl⟩:=hc.form
 obtain⟨AH,nh,dh,rfl⟩:=hh.form
 obtain⟨w0,hw0⟩:∃w0,w0=w.alloc (.cells #[ua,.slice A2 n2 d2,.int .i64 un,.slice A3 n3 d3] 77):=⟨_,rfl⟩
 have hB0:Below w.heap.size w w0:=by rw [hw0];exact iA
 have hh0:w0.heap[w.heap.size]?=some (.cells #[ua,.slice A2 n2 d2,.int .i64 un,.slice A3 n3 d3] 77 (0,0)):=by rw [hw0];exact iN
 have hlt0:=(iG hh0)
 have CS:Hid (∀W,Below w0.heap.size w0 W->W.cell? ⟨w.heap.size,0,none⟩=some ua/\W.cell? ⟨w.heap.size,1,none⟩=some (.slice A2 n2 d2)/\W.cell? ⟨w.heap.size,2,none⟩=some (.int .i64 un)/\W.cell? ⟨w.heap.size,3,none⟩=some (.slice A3 n3 d3)):=iH fun W h=>(by obtain⟨a,b,c,d,_⟩:=ki ((h.block w.heap.size hlt0).trans hh0);exact⟨a,b,c,d⟩)
 have HE:=yR L o w0 (hO.keep fun g hg hl=>⟨hB0.block g hl,iZ hg hB0.size⟩) (by omega) (by omega)
 rw [hE]at HE
 have HE:=iH HE
 have lb:=Yi hE
 have LB:=iH lb
 have LC:Hid ((kC k2 N head b).length<=8):=iH (by unfold kC;rw [List.length_take];omega)
 have H2:=iH (hb.lift hB0);have H3:=iH (hc.lift hB0);have HH:=iH (hh.lift hB0);have HB:=iH hB0;have HW0:=iH hw0
 obtain⟨C9,hC9⟩:∃C,kC k2 N head b=C:=⟨_,rfl⟩
 obtain⟨X8,hX8⟩:∃X,N++(head++b)=X:=⟨_,rfl⟩
 have HCK:Hid (∀(vk vb:Value) (w:World),Bs w w.heap.size vk k2->Bs w w.heap.size vb X8->Calls Tryz.prog 88 #[vk,vb] w fun e w'=>∃v',e=.returned (.tuple #[v',.int .i64 0])/\OwnS w' w.heap.size v' C9/\Below w.heap.size w w'):=iH (fun vk vb w h1 h2=>by rw [<-hC9];unfold kC;rw [hX8];exact Vh vk vb k2 _ l2 (by rw [<-hX8,List.length_append,List.length_append];omega) w h1 h2)
 have HCAT:Hid (∀(AB:Option Addr) (db g:Nat) (w1:World),w1.heap[g]?=some (.cells #[.slice A3 n3 d3,.slice AH nh dh,.slice AB b.length db] 27 (0,0))->Bs w1 w1.heap.size (.slice A3 n3 d3) N->Bs w1 w1.heap.size (.slice AH nh dh) head->Bs w1 w1.heap.size (.slice AB b.length db) b->Calls Tryz.prog 89 #[.slice (some ⟨g,0,none⟩) 3 3] w1 fun e w'=>∃v',e=.returned v'/\Bs w' w'.heap.size v' X8/\Below w1.heap.size w1 w'):=iH (fun AB db g w1 hg h1 h2 h3=>by
  have h:=U7 [(.slice A3 n3 d3,N),(.slice AH nh dh,head),(.slice AB b.length db,b)] g (·<w1.heap.size) w1 27 hg (fun p hp=>by
   simp only [List.mem_cons,List.not_mem_nil,or_false]at hp
   rcases hp with rfl|rfl|rfl
   ·exact h1
   ·exact h2
   ·exact h3) (by simp [Kv];omega) (by simp)
  have e:Kv [(.slice A3 n3 d3,N),(.slice AH nh dh,head),(.slice AB b.length db,b)]=X8:=by rw [<-hX8];simp [Kv]
  rw [e]at h
  exact h.mono fun e w' ⟨v',he,ho,hb⟩=>⟨v',he,OwnB.rd ho (by rw [<-hX8,List.length_append,List.length_append];omega),hb⟩)
 rw [hC9]at LC |-
 clear hb hc hh hO hB0 hw0 hh0 hlt0 hC9 lb hE l2 ln lh ha hle hX8
 go_enter Tryz.func56,Tryz.ntmps56
 go_upto_region 1 with fail
 rw [<-HW0.out]
 go_upto_region 4 with (go_at_call 84;refine HE.out.mono ?_;rintro e we ⟨v',rfl,hs,hb⟩;obtain⟨AB,db,hv⟩:=Bs.formL hs;rw [show bytesOf (.ok b:Except Int (List UInt8))=b from rfl]at hv hs;subst hv;have HBB:=iH (BsS.rd hs);have HBE:=iH hb;clear hs hb)
 refine jc 14 [some 18,some 19,some 20,some 21,some 22,some 23,some 24,some 25,some 26,some 27,some 28,some 29,some 6,some 7] [[],[0],[0,1],[],[3],[],[],[3,4,5,6],[3,4,5,6,7],[0,1,2,3,4,5,6,7,8],[0,1,2,3,4,5,6,7,8,9],[0,1,2,3,4,5,6,7,8,9],[0,1,2,3,4,5,6,7,8,9,10,11],[0,1,2,3,4,5,6,7,8,9,10,11,12]]
  (fun _ _ w1=>Below we.heap.size we w1) (fun w1 w2=>Below w1.heap.size w1 w2)
  [fun v _=>v 0=.pointer (some ⟨w.heap.size,0,none⟩),
   fun v _=>v 1=.pointer (some ⟨w.heap.size,1,none⟩),
   fun v _=>v 2=.slice A2 n2 d2,
   fun v _=>v 3=.pointer (some ⟨w.heap.size,3,none⟩),
   fun v _=>v 4=.slice A3 n3 d3,
   fun v _=>v 5=.slice AH nh dh,
   fun v _=>v 6=.slice AB b.length db,
   fun v w1=>∃g,v 7=.slice (some ⟨g,0,none⟩) 3 3/\w1.heap[g]?=some (.cells #[.slice A3 n3 d3,.slice AH nh dh,.slice AB b.length db] 27 (0,0)),
   fun v w1=>∃a c,v 8=.slice a (X8).length c/\Bs w1 w1.heap.size (.slice a (X8).length c) (X8),
   fun v w1=>∃a c,v 9=.tuple #[.slice a (C9).length c,.int .i64 0]/\BsS w1 (New w w1) (.slice a (C9).length c) (C9),
   fun v w1=>∃a c,v 10=.slice a (C9).length c/\BsS w1 (New w w1) (.slice a (C9).length c) (C9),
   fun v _=>v 11=.int .i64 0,
   fun v w1=>∃a c,v 12=.slice a (C9).length c/\BsS w1 (New w w1) (.slice a (C9).length c) (C9),
   fun v _=>v 13=.int .i64 0]
  (by kernel_rfl) (by kernel_rfl) (fun _=>iB.drew) ?st ?steps ?tail
 case st=>
  exact(.cons (fun _ _ _ _ _ _ h=>h) (.cons (fun _ _ _ _ _ _ h=>h) (.cons (fun _ _ _ _ _ _ h=>h) (.cons (fun _ _ _ _ _ _ h=>h) (.cons (fun _ _ _ _ _ _ h=>h) (.cons (fun _ _ _ _ _ _ h=>h) (.cons (fun _ _ _ _ _ _ h=>h) (.cons (fun _ _ _ _ _ hr ⟨g,e,h⟩=>⟨g,e,(hr.block g (iG h)).trans h⟩) (.cons (fun _ _ _ _ _ hr ⟨a,c,e,h⟩=>⟨a,c,e,h.lift hr⟩) (.cons (fun _ _ _ _ _ hr ⟨a,c,e,h⟩=>⟨a,c,e,BsS.keep h fun g hg hl=>⟨hr.block g hl,hg.1,iZ hl hr.size⟩⟩) (.cons (fun _ _ _ _ _ hr ⟨a,c,e,h⟩=>⟨a,c,e,BsS.keep h fun g hg hl=>⟨hr.block g hl,hg.1,iZ hl hr.size⟩⟩) (.cons (fun _ _ _ _ _ _ h=>h) (.cons (fun _ _ _ _ _ hr ⟨a,c,e,h⟩=>⟨a,c,e,BsS.keep h fun g hg hl=>⟨hr.block g hl,hg.1,iZ hl hr.size⟩⟩) (.cons (fun _ _ _ _ _ _ h=>h) .nil))))))))))))))
 case steps=>
  simp only [List.take_succ_cons,List.take_zero]
  refine(.cons ?_ (.cons ?_ (.cons ?_ (.cons ?_ (.cons ?_ (.cons ?_ (.cons ?_ (.cons ?_ (.cons ?_ (.cons ?_ (.cons ?_ (.cons ?_ (.cons ?_ (.cons ?_ .nil))))))))))))))
  all_goals(intro L v w1 hJ hL hA hF K hK;simp only [jf,Act.put,Nat.zero_add,Nat.reduceAdd,List.setIfInBounds_toArray,List.set_cons_zero,List.set_cons_succ]at hK |-)
  ·exact m6
  ·have e0:v 0=_:=hF 0 (hA 0 (by simp))
   simp only [e0]at hK
   exact m6
  ·have e1:v 1=_:=hF 1 (hA 1 (by simp))
   obtain⟨c0,c1,c2,c3⟩:=CS.out _ (HBE.out.trans (hJ.mono HBE.out.size))
   simp only [e1]at hK
   exact m6
  ·exact m6
  ·have e3:v 3=_:=hF 3 (hA 3 (by simp))
   obtain⟨c0,c1,c2,c3⟩:=CS.out _ (HBE.out.trans (hJ.mono HBE.out.size))
   simp only [e3]at hK
   exact m6
  ·exact m6
  ·exact m6
  ·have e4:v 4=_:=hF 4 (hA 4 (by simp))
   have e5:v 5=_:=hF 5 (hA 5 (by simp))
   have e6:v 6=_:=hF 6 (hA 6 (by simp))
   simp only [e4,e5,e6]at hK
   go_simp
   have hz:=(Below.refl w1.heap.size w1).alloc iL (.cells #[.slice A3 n3 d3,.slice AH nh dh,.slice AB b.length db] 27)
   exact hK _ _ (hJ.trans (hz.mono hJ.size)) hz ⟨_,rfl,iN⟩
  ·obtain⟨g7,e7,h7⟩:∃g,v 7=_/\_:=hF 7 (hA 7 (by simp))
   simp only [e7]at hK
   go_simp
   refine(HCAT.out AB db g7 w1 h7 (H3.out.lift (HBE.out.trans (hJ.mono HBE.out.size))) (HH.out.lift (HBE.out.trans (hJ.mono HBE.out.size))) (HBB.out.lift hJ)).mono ?_
   rintro e w5 ⟨v5,rfl,hx,hb⟩
   exact m7
  ·have e2:v 2=_:=hF 2 (hA 2 (by simp))
   simp only [e2]at hK
   obtain⟨a8,c8,e8,h8⟩:∃a c,v 8=_/\_:=hF 8 (hA 8 (by simp))
   simp only [e8]at hK
   go_simp
   refine(HCK.out _ _ w1 (H2.out.lift (HBE.out.trans (hJ.mono HBE.out.size))) h8).mono ?_
   rintro e w5 ⟨v5,rfl,ho,hb⟩
   have hx:BsS w5 (New w w5) v5 (C9):=(ho.bs (by have:=LC.out;omega)).keep fun g hg _=>⟨rfl,Nat.le_trans (Nat.le_trans HB.out.size (Nat.le_trans HBE.out.size hJ.size)) hg.1,hg.2⟩
   exact m7
  ·exact mh
  ·exact m38
  ·exact mY
  ·have e11:v 11=_:=hF 11 (hA 11 (by simp))
   simp only [e11]at hK
   exact m6
 case tail=>
  intro v w1 hJ hF
  have e0:v 0=_:=hF 0 (by simp)
  have e1:v 1=_:=hF 1 (by simp)
  have e2:v 2=_:=hF 2 (by simp)
  have e3:v 3=_:=hF 3 (by simp)
  have e4:v 4=_:=hF 4 (by simp)
  have e5:v 5=_:=hF 5 (by simp)
  have e6:v 6=_:=hF 6 (by simp)
  have e11:v 11=_:=hF 11 (by simp)
  have e13:v 13=_:=hF 13 (by simp)
  obtain⟨a12,c12,e12,h12⟩:∃a c,v 12=_/\_:=hF 12 (by simp)
  simp only [List.drop_succ_cons,List.drop_zero,jf,Act.put,Nat.zero_add,Nat.reduceAdd,List.setIfInBounds_toArray,List.set_cons_zero,List.set_cons_succ]
  simp only [e12,e13]
  clear e0 e1 e2 e3 e4 e5 e6 e11 e13
  have HS:=iH h12
  have HBW:=iH (HB.out.trans ((HBE.out.trans (hJ.mono HBE.out.size)).mono HB.out.size))
  clear h12 hJ hF
  go_wp2_with fail
  go_ret2
  exact⟨_,_,rfl,HS.out,HBW.out⟩
theorem VM(x:Int)(hx:(x==0)=false)(hE:qG L=.error x)(w:World)(hb:Bs w w.heap.size ub k2)(hc:Bs w w.heap.size uc N)(hh:Bs w w.heap.size vh head)(hO:NsS w (·<w.heap.size) o L):
 Calls Tryz.prog 56 #[.agg #[ua,ub,.int .i64 un,uc],vh,o] w fun e w'=>e=.returned (.tuple #[.slice none 0 0,.int .i64 x])/\Below w.heap.size w w':=by
 obtain⟨A2,n2,d2,rfl⟩:=hb.form
 obtain⟨A3,n3,d3,rfl⟩:=hc.form
 obtain⟨AH,nh,dh,rfl⟩:=hh.form
 obtain⟨w0,hw0⟩:∃w0,w0=w.alloc (.cells #[ua,.slice A2 n2 d2,.int .i64 un,.slice A3 n3 d3] 77):=⟨_,rfl⟩
 have hB0:Below w.heap.size w w0:=by rw [hw0];exact iA
 have hh0:w0.heap[w.heap.size]?=some (.cells #[ua,.slice A2 n2 d2,.int .i64 un,.slice A3 n3 d3] 77 (0,0)):=by rw [hw0];exact iN
 have hlt0:=(iG hh0)
 have CS:Hid (∀W,Below w0.heap.size w0 W->W.cell? ⟨w.heap.size,0,none⟩=some ua/\W.cell? ⟨w.heap.size,1,none⟩=some (.slice A2 n2 d2)/\W.cell? ⟨w.heap.size,2,none⟩=some (.int .i64 un)/\W.cell? ⟨w.heap.size,3,none⟩=some (.slice A3 n3 d3)):=iH fun W h=>(by obtain⟨a,b,c,d,_⟩:=ki ((h.block w.heap.size hlt0).trans hh0);exact⟨a,b,c,d⟩)
 have HE:=yR L o w0 (hO.keep fun g hg hl=>⟨hB0.block g hl,iZ hg hB0.size⟩) (by omega) (by omega)
 rw [hE]at HE
 have HE:=iH HE
 have HB:=iH hB0;have HW0:=iH hw0
 have t1:(x != 0)=true:=by simpa using hx
 clear hb hc hh hO hB0 hw0 hh0 hlt0 hE l2 ln lh ha hle CS hx
 go_enter Tryz.func56,Tryz.ntmps56
 go_upto_region 1 with fail
 rw [<-HW0.out]
 go_wp2_with(go_at_call 84;refine HE.out.mono ?_;rintro e we ⟨v',rfl,hs,hb⟩;rw [show jV (.error x:Except Int (List UInt8))=x from rfl];have HBE:=iH hb;clear hs hb)
 go_ret2
 exact⟨rfl,HB.out.trans (HBE.out.mono HB.out.size)⟩
end
def x6(k2 N head:List UInt8)(L:Ns):Except Int (List UInt8):=
 match qG L with
 |.error e=>.error e
 |.ok b=>qG (L.app (.cons 142 (kC k2 N head b) .nil .nil))
def Zf(r:Except Int (List UInt8))(base:Nat)(o:Value)(w:World)(e:Ending)(w':World):Prop:=
 ∃v,e=.returned (.tuple #[v,.int .i64 (jV r)])/\BsS w' (New w w') v (bytesOf r)/\Below base w w'/\w.grownBy w' o.ownBlock
theorem kT{a b c:World}{r:Option Nat}(h:a.grownBy b r)(k:b.grownBy c r):a.grownBy c r:=
 ⟨k.os.trans h.os,k.tape.trans h.tape,k.output.trans h.output,Nat.le_trans h.size k.size,fun i hi hn=>(k.block i (iZ hi h.size) hn).trans (h.block i hi hn)⟩
theorem Ns.all_snoc(L:Ns)(t:Int)(v:List UInt8):(L.app (.cons t v .nil .nil)).all=L.all+1:=by
 induction L with
 |nil=>rfl
 |cons a b k r _ ih=>simp only [Ns.app,Ns.all,ih];omega
theorem xz(L M:Ns):(L.app M).enc=L.enc++M.enc:=by
 induction L with
 |nil=>rfl
 |cons a b k r _ ih=>simp only [Ns.app,Ns.enc,ih,List.append_assoc]
theorem j6r:kB 142:=⟨by decide,by decide⟩
theorem j6n(v:List UInt8)(h:v.length<=8):(Ns.cons 142 v .nil .nil).enc.length<=100:=by
 have h1:jY 142=false:=by decide
 simp only [Ns.enc,h1]
 have h2:(xu v.length).length=1:=by unfold xu;rw [iT (by omega)]<;>rfl
 have h3:(ku 142).length=1:=by decide
 simp [h2,h3]
 omega
theorem Xx(ua ub uc vh o:Value)(un:Int)(k2 N head:List UInt8)(L:Ns)(l2:k2.length=16)(ln:N.length=16)(lh:head.length<=100)(ha:L.all<=10)(hle:L.enc.length<=10000)(base:Nat)(w:World)(hb:Bs w w.heap.size ub k2)(hc:Bs w w.heap.size uc N)(hh:Bs w w.heap.size vh head)(hO:OwnN w base o L)(hbase:base<=w.heap.size):
 Calls Tryz.prog 52 #[.agg #[ua,ub,.int .i64 un,uc],vh,o] w (Zf (x6 k2 N head L) base o w):=by
 have hlen:L.len<=10:=Nat.le_trans (Ns.len_all L) ha
 have hN:=(hO.nss (by omega)).keep (w':=w) (S':=(·<w.heap.size)) fun g hg _=>⟨rfl,hg.2⟩
 obtain⟨A2,n2,d2,rfl⟩:=hb.form
 obtain⟨A3,n3,d3,rfl⟩:=hc.form
 obtain⟨oA,oc,rfl⟩:=hO.form
 obtain⟨w0,hw0⟩:∃w0,w0=w.alloc (.cells #[ua,.slice A2 n2 d2,.int .i64 un,.slice A3 n3 d3] 77):=⟨_,rfl⟩
 have hB0:Below w.heap.size w w0:=by rw [hw0];exact iA
 have hh0:w0.heap[w.heap.size]?=some (.cells #[ua,.slice A2 n2 d2,.int .i64 un,.slice A3 n3 d3] 77 (0,0)):=by rw [hw0];exact iN
 have hlt0:=(iG hh0)
 have CS:Hid (∀W,Below w0.heap.size w0 W->W.cell? ⟨w.heap.size,0,none⟩=some ua/\W.cell? ⟨w.heap.size,1,none⟩=some (.slice A2 n2 d2)/\W.cell? ⟨w.heap.size,2,none⟩=some (.int .i64 un)/\W.cell? ⟨w.heap.size,3,none⟩=some (.slice A3 n3 d3)):=iH fun W h=>(by obtain⟨a,b,c,d,_⟩:=ki ((h.block w.heap.size hlt0).trans hh0);exact⟨a,b,c,d⟩)
 have hN0:=hN.keep (w':=w0) (S':=(·<w0.heap.size)) fun g hg hl=>⟨hB0.block g hl,iZ hg hB0.size⟩
 have HO:=iH (hO.below hB0)
 have HB:=iH hB0;have HW0:=iH hw0;have HBASE:=iH hbase;have HLEN:=iH hlen
 have HAL:=iH ha;have HLE:=iH hle
 have b0:=hb.lift hB0;have c0:=hc.lift hB0;have h0:=hh.lift hB0
 rcases hE:qG L with x|b
 ·have hx:(x==0)=false:=Ql hE
  have HC:=iH (VM ua _ _ vh _ un k2 N head L l2 ln lh ha hle x hx hE w0 b0 c0 h0 hN0)
  have R:Hid (x6 k2 N head L=.error x):=iH (by unfold x6;rw [hE])
  have t1:(x != 0)=true:=by simpa using hx
  clear hb hc hh hO hB0 hw0 hh0 hlt0 hE l2 ln lh ha hle hN hN0 hbase hlen hx b0 c0 h0
  go_enter Tryz.func52,Tryz.ntmps52
  go_upto_region 1 with fail
  rw [<-HW0.out]
  obtain⟨c0,c1,c2,c3⟩:=CS.out w0 iB
  go_wp2_with(go_at_call 56;refine HC.out.mono ?_;rintro e w1 ⟨rfl,hb⟩;have HB1:=iH (HB.out.trans (hb.mono HB.out.size));clear hb c0 c1 c2 c3)
  go_ret2
  rw [R.out]
  exact⟨_,rfl,BsS.nil0 _ _,HB1.out.mono HBASE.out,jD HB1.out _⟩
 ·have HC:=Qr ua _ _ vh _ un k2 N head L l2 ln lh ha hle b hE w0 b0 c0 h0 hN0
  have LC:(kC k2 N head b).length<=8:=by unfold kC;rw [List.length_take];omega
  obtain⟨C9,hC9⟩:∃C,kC k2 N head b=C:=⟨_,rfl⟩
  rw [hC9]at HC LC
  have R:Hid (x6 k2 N head L=qG (L.app (.cons 142 C9 .nil .nil))):=iH (by unfold x6;rw [hE,<-hC9])
  have HC:=iH HC
  have ELN:Hid ((L.app (.cons 142 C9 .nil .nil)).enc.length<=1000000000000):=iH (by rw [xz,List.length_append];have:=j6n C9 LC;omega)
  have EAL:Hid ((L.app (.cons 142 C9 .nil .nil)).all<=100000000000):=iH (by rw [Ns.all_snoc];omega)
  have ELE:Hid ((L.app (.cons 142 C9 .nil .nil)).len<=2513169434843):=iH (by rw [Ns.len_snoc];omega)
  clear hb hc hh hO hB0 hw0 hh0 hlt0 hE l2 ln lh ha hle hN hN0 hbase hlen b0 c0 h0 hC9 LC
  go_enter Tryz.func52,Tryz.ntmps52
  go_upto_region 1 with fail
  rw [<-HW0.out]
  obtain⟨c0,c1,c2,c3⟩:=CS.out w0 iB
  go_wp2_with(first
   |(go_at_call 84;have M2:=HO2;refine(yR (L.app (.cons 142 C9 .nil .nil)) o2 w2 HN2.out EAL.out ELN.out).mono ?_;rintro e w3 ⟨v3,rfl,hs,hb⟩;have HS3:=iH (BsS.keep hs (w':=w3) (S':=New w w3) fun g hg _=>⟨rfl,Nat.le_trans HG2.out.size hg.1,hg.2⟩);have HB3:=iH (HB2.out.trans (hb.mono (Nat.le_trans HBASE.out HG2.out.size)));have HG3:=iH (kT HG2.out (jD hb (Value.slice oA L.len oc).ownBlock));clear hs hb)
   |(at_builtin;(with_reducible refine jz rfl (.tmp 20) (.tmp 23) rfl base (.slice oA L.len oc) L rfl HO1.out 142 C9 .nil (.slice cA C9.length cc) (.slice none 0 0) _ w1.heap.size rfl rfl j6r HC1.out (NsS.nil0 _ _) (by have:=HLEN.out;omega) HBS1.out ?_);intro o2 w2 hg2;have HO2:=iH hg2.1;have HN2:=iH ((hg2.1.nss ELE.out).keep (w':=w2) (S':=(·<w2.heap.size)) fun g hg _=>⟨rfl,hg.2⟩);have HG2:Hid (w.grownBy w2 (Value.slice oA L.len oc).ownBlock):=iH (kT (jD HB1.out _) hg2.2.2);have HB2:Hid (Below base w w2):=iH ((HB1.out.mono HBASE.out).trans hg2.2.1);clear hg2)
   |(go_at_call 56;refine HC.out.mono ?_;rintro e w1 ⟨cA,cc,rfl,hs,hb⟩;have HO1:=iH (HO.out.below hb);have HB1:=iH (HB.out.trans (hb.mono HB.out.size));have HC1:=iH (qW HO.out hs hb (Nat.le_trans HBASE.out HB.out.size));have HBS1:=iH (Nat.le_trans HBASE.out HB1.out.size);clear hb hs c0 c1 c2 c3))
  go_ret2
  rw [R.out]
  exact⟨_,rfl,HS3.out,HB3.out,HG3.out⟩
end Go.Proofs.YtadndhgebgjlaaaGreat
