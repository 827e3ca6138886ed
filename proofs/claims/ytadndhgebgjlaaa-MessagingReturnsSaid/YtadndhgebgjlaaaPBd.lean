/- double, both sides: the shift of a block to the left by one bit; Cuts of slices of bytes. No program is named here; The walk of Code; modes.Check, both sides... -/
import Derived.Deep.RegionLawGrows
import Derived.Lib.BitFns
import Derived.Lib.SlBytesConst
import Derived.Lib.Slices
import Derived.Lib.Small
import Derived.Lib.Strings
import Derived.Lib.Walk
import Derived.Test.YtadndhgebgjlaaaPz
import Derived.Test.YtadndhgebgjlaaaPs
import Derived.Test.YtadndhgebgjlaaaPBc
import Derived.Test.YtadndhgebgjlaaaPu
import Derived.Test.YtadndhgebgjlaaaPBb
import Derived.Test.YtadndhgebgjlaaaPt
import Derived.Test.YtadndhgebgjlaaaPBa
import Derived.Test.YtadndhgebgjlaaaPw
set_option linter.unusedVariables false
set_option linter.unusedSimpArgs false
set_option maxRecDepth 100000
set_option maxHeartbeats 4000000
namespace Go.Proofs.Ytadndhgebgjlaaa
open Go.RowKit Go.Deep
def UN(f:Nat->UInt8)(j:Nat):UInt8:=f j*2 ||| if j+1<16 then f (j+1) / 128 else 0
def j0c(f:Nat->UInt8)(j:Nat):UInt8:=if j=15/\128<=bv (f 0)then UN f j ^^^ 135 else UN f j
def VZ(l:List UInt8):List UInt8:=kh 16 (j0c (gb l))
theorem Qh(l:List UInt8):(VZ l).length=16:=jX _ _
def QY(m:Nat)(new:Nat->UInt8)(j:Nat):UInt8:=if m<=j then new j else 0
theorem Kh{w:World}{g N n:Nat}{t:TypeId}{new:Nat->UInt8}{v:UInt8}(h:w.rowIs g t N (fun j=>U8 (QY (n+1) new j)))(hv:v=new n):
 (w.setCell ⟨g,n,none⟩ (U8 v)).rowIs g t N (fun j=>U8 (QY n new j)):=
 (h.set n _).congr fun j _=>by
   unfold QY
   by_cases e:j=n
   ·subst e;simp [hv]
   ·by_cases e2:n<=j
    ·simp [e,e2,show n+1<=j by omega]
    ·simp [e,e2,show ¬n+1<=j by omega]
def Ve(f:Nat->UInt8)(m:Nat):UInt8:=if m<16 then f m / 128 else 0
theorem j0z(w:World):(wz w).rowIs w.heap.size 5 16 (fun j=>U8 ((fun _=>0) j)):=by unfold wz;exact jC _ _ _ _
theorem Ql(b:UInt8):(b / 128==1)=decide (128<=bv b):=by
 have h:(b / 128).toNat=b.toNat / 128:=by rw [UInt8.toNat_div]<;>rfl
 have h2:=b.toNat_lt
 by_cases e:128<=bv b
 ·have:b / 128=1:=UInt8.toNat_inj.1 (by rw [h];unfold bv at e;show _=1;omega)
  rw [this];simp [e]
 ·have:¬b / 128=1:=fun hh=>by rw [hh]at h;unfold bv at e;have:(1:UInt8).toNat=1:=rfl;omega
  simp [e,this]
theorem VN{w:World}{g:Nat}{t:TypeId}{f:Nat->UInt8}(h:w.rowIs g t 16 (fun j=>U8 (UN f j)))(hb:¬128<=bv (f 0)):w.rowIs g t 16 (fun j=>U8 (j0c f j)):=
 h.congr fun j _=>by unfold j0c;rw [iF (fun e=>hb e.2)]
theorem KW{w:World}{g:Nat}{t:TypeId}{f:Nat->UInt8}(h:w.rowIs g t 16 (fun j=>U8 (UN f j)))(hb:128<=bv (f 0)):(w.setCell ⟨g,15,none⟩ (U8 (UN f 15 ^^^ 135))).rowIs g t 16 (fun j=>U8 (j0c f j)):=
 (h.set 15 _).congr fun j _=>by
   unfold j0c
   by_cases e:j=15
   ·subst e;rw [iT rfl,iT ⟨rfl,hb⟩]
   ·rw [iF e,iF (fun x=>e x.1)]
theorem zY(v:Value)(l:List UInt8)(hl:l.length=16)(w:World)(hv:Bs w w.heap.size v l):
 Calls Try.prog 83 #[v] w fun e w'=>∃v',e=.returned v'/\BsS w' (New w w') v' (VZ l)/\Below w.heap.size w w':=by
 obtain⟨A0,n,c,rfl⟩:=hv.form
 obtain⟨a,c0,e0,hc,_,_,hcell⟩:=hv
 injection e0 with e1 e2 e3
 subst e1 e3
 rw [hl]at e2
 subst e2
 obtain⟨bb,ob,rfl,hbb,hx⟩:=hcell (by omega)
 rw [hl]at hx
 have HX:=iH hx;have HC:=iH hc;have HL:=iH hl;have Hm:=Qp
 clear hx hcell hc hl
 go_enter Try.func83,Try.ntmps83
 go_wp2_with fail
 go_loopw [5,4] (fun i cr wr=>∃m:Nat,m<=16/\i=.int .i64 ((m:Int) - 1)/\cr=U8 (Ve (gb l) m)/\wr.rowIs w.heap.size 5 16 (fun j=>U8 (QY m (UN (gb l)) j))/\Below w.heap.size w wr) (fun i _ _=>(intOf i+1).toNat)
 case atStart=>exact⟨16,by omega,rfl,rfl,(j0z w).congr fun j hj=>by unfold QY;rw [iF (by omega)],kC w⟩
 case round=>
  obtain⟨m,hm,hi,rfl,hr,hb⟩:=hrel
  cases m with
  |zero=>
   have hd:decide ((-1:Int)>=0)=false:=by decide
   have hi:_=Value.int .i64 (-1):=hi
   subst hi
   have hr0:=hr.congr (g:=fun j=>U8 (UN (gb l) j)) fun j _=>by unfold QY;rw [iT (by omega)]
   have c1:wr.cell? ⟨w.heap.size,15,none⟩=some (U8 (UN (gb l) 15)):=hr0.cell (by omega)
   have f1:=hr0.frozen 15
   have hr1:=iH hr0;have hb1:=iH hb;clear hr hr0 hb
   by_cases hh:128<=bv (gb l 0)
   ·have hq:(Ve (gb l) 0==1)=true:=by unfold Ve;rw [iT (by omega),Ql];simp [hh]
    have H:=iH hh;clear hh
    go_wp2_with fail
    go_ret
    have hr2:=KW hr1.out H.out
    refine⟨_,rfl,BsS.of_row (S:=New w _) hr2 (by omega) ⟨Nat.le_refl _,by have:=hr2.lt;exact this⟩,hb1.out.setCell (by simp) _⟩
   ·have hq:(Ve (gb l) 0==1)=false:=by unfold Ve;rw [iT (by omega),Ql];simp [hh]
    have H:=iH hh;clear hh
    go_wp2_with fail
    go_ret
    have hr2:=VN hr1.out (by have:=H.out;omega)
    refine⟨_,rfl,BsS.of_row (S:=New w _) hr2 (by omega) ⟨Nat.le_refl _,by have:=hr2.lt;exact this⟩,hb1.out⟩
  |succ k=>
   rw [show((k+1:Nat):Int) - 1=k by omega]at hi
   subst hi
   have hr1:=iH hr;have hb1:=iH hb;clear hr hb
   have c1:wr.cell? ⟨bb,ob+k,none⟩=some (U8 (gb l k)):=(hb1.out.cell (p:=⟨bb,ob+k,none⟩) hbb).trans (HX.out k (by omega))
   have f1:=hr1.out.frozen k
   have c3:=hr1.out.cell (i:=k) (by omega)
   have hn:¬w.heap.size=bb:=by omega
   have hk:(k:Int)<16:=by omega
   have hd:decide ((k:Int)>=0)=true:=by simp
   have c2:(wr.setCell ⟨w.heap.size,k,none⟩ (.int .u8 (bv (gb l k*2 ||| Ve (gb l) (k+1))))).cell? ⟨bb,ob+k,none⟩=some (U8 (gb l k)):=((hb1.out.setCell (p:=⟨w.heap.size,k,none⟩) (by simp) _).cell (p:=⟨bb,ob+k,none⟩) hbb).trans (HX.out k (by omega))
   go_wp2_with fail
   go_roundw
   case rel=>
    refine⟨k,by omega,by go_num,?_,Kh hr1.out ?_,hb1.out.setCell (by simp) _⟩
    ·unfold Ve;rw [iT (by omega)]
    ·rfl
   case measure=>simp [intOf]<;>omega
theorem j0b{w:World}{S:Nat->Prop}{b off n c:Nat}{l:List UInt8}(h:BsS w S (.slice (some ⟨b,off,none⟩) n c) l)(k:Nat)(hk:k<=l.length):BsS w S (.slice (some ⟨b,off+k,none⟩) (n - k) (c - k)) (l.drop k):=by
 obtain⟨a,c',hv,h1,h2,h3,h4⟩:=h
 injection hv with ha hn hc
 subst ha hc hn
 refine⟨_,c - k,by rw [List.length_drop],by rw [List.length_drop];omega,by omega,by rw [List.length_drop];omega,fun hp=> ?_⟩
 rw [List.length_drop]at hp
 obtain⟨b',off',e,hb,hcell⟩:=h4 (by omega)
 injection e with e
 injection e with e1 e2
 subst e1 e2
 refine⟨b,off+k,rfl,hb,fun j hj=> ?_⟩
 rw [List.length_drop]at hj
 rw [Nat.add_assoc,hcell (k+j) (by omega)]
 congr 2
 unfold gb
 rw [List.getD_eq_getElem?_getD,List.getD_eq_getElem?_getD,List.getElem?_drop]
theorem UM{w:World}{S:Nat->Prop}{b off n c:Nat}{l:List UInt8}(h:BsS w S (.slice (some ⟨b,off,none⟩) n c) l)(k:Nat)(hk:k<=l.length)(n' c':Nat)(hn:n'=n - k)(hc:c'=c - k):BsS w S (.slice (some ⟨b,off+k,none⟩) n' c') (l.drop k):=by
 subst hn hc
 exact j0b h k hk
theorem UH{w:World}{S:Nat->Prop}{A:Option Addr}{n c:Nat}{l:List UInt8}(h:BsS w S (.slice A n c) l)(hl:0<l.length):∃b off,A=some ⟨b,off,none⟩:=by
 obtain⟨_,_,hv,_,_,_,h4⟩:=h
 injection hv with ha hn hc
 obtain⟨b,off,e,_⟩:=h4 hl
 exact⟨b,off,ha.trans e⟩
def kL(b:List UInt8):Prop:=b.length=0\/¬b.length % 16=0
instance (b:List UInt8):Decidable (kL b):=by unfold kL;infer_instance
def VR(k:List UInt8):List UInt8:=VZ (qZ k Z16)
def yB(k b:List UInt8):List UInt8:=if kL b then VZ (VR k)else VR k
def zF(b:List UInt8):List UInt8:=if kL b then xI b else b
def xB(x kk:List UInt8):List UInt8:=x.take (x.length - 16)++xU (x.drop (x.length - 16)) kk
def zE(k b:List UInt8):List UInt8:=if k.length=16 then(kR k Z16 (xB (zF b) (yB k b))).drop ((zF b).length - 16)else []
theorem QD(k:List UInt8):(VR k).length=16:=Qh _
theorem Z5(k b:List UInt8):(yB k b).length=16:=by unfold yB;split;exact Qh _;exact QD _
theorem JJ(b:List UInt8):∃m,(zF b).length=16*m+16:=by
 unfold zF
 split
 ·have h1:=kT b
  have h2:0<(xI b).length:=by rw [kt];omega
  exact⟨(b.length+1+zG b.length) / 16 - 1,by omega⟩
 ·rename_i h
  unfold kL at h
  exact⟨b.length / 16 - 1,by omega⟩
theorem yb{x:List UInt8}(kk:List UInt8)(h:16<=x.length):(xB x kk).length=x.length:=by
 unfold xB;rw [List.length_append,jP,List.length_take];omega
theorem Xm{w':World}{base g M cap:Nat}{cur:List Value}{x kk:List UInt8}(hx:x.length=M+16)(hg:base<=g)(hcur:cur.length=cap)(hc:M+16<=cap)(hm:cap<=maxLen)(ht:cur.take (M+16)=x.map U8)
 (h:w'.heap[g]?=some (.cells (splice cur M ((xU (x.drop M) kk).map U8)).toArray 5 (0,0))):w'.ownsRow base 5 1 (.slice (some ⟨g,0,none⟩) (M+16) cap) (xB x kk).length ((xB x kk).map U8):=by
 have hl:(xB x kk).length=M+16:=by rw [yb _ (by omega),hx]
 have hxl:((xU (x.drop M) kk).map U8).length=16:=by rw [List.length_map,jP]
 refine⟨by rw [List.length_map];omega,.inr ⟨g,cap,_,by rw [hl],hg,h,by omega,hm,?_,?_⟩⟩
 ·rw [List.size_toArray,length_splice _ _ _ (by omega)];omega
 ·rw [hl,Nat.mul_one]
  show(splice cur M _).take (M+16)=_
  unfold splice xB
  rw [<-List.append_assoc,List.take_append_of_le_length (by rw [List.length_append,List.length_take,hxl];omega),List.take_of_length_le (by rw [List.length_append,List.length_take,hxl];omega),
   List.map_append,show x.length - 16=M by omega,List.map_take,<-ht,List.take_take,Nat.min_eq_left (by omega)]
theorem Jn{w:World}{base base':Nat}{e:TypeId}{v:Value}{n size:Nat}{xs:List Value}(h:w.ownsRow base e size v n xs)(hb:base'<=base):w.ownsRow base' e size v n xs:=by
 refine⟨h.1,?_⟩
 rcases h.2 with h2|⟨g,cap,cur,hv,hg,r⟩
 ·exact .inl h2
 ·exact .inr ⟨g,cap,cur,hv,Nat.le_trans hb hg,r⟩
theorem zX{k:List UInt8}(hk:k.length=16)(b:List UInt8):(zE k b).length=16:=by
 obtain⟨m,hm⟩:=JJ b
 have h:(xB (zF b) (yB k b)).length=16*(m+1):=by rw [yb _ (by omega),hm];omega
 unfold zE
 rw [iT hk,xL k Z16 _ h,List.length_drop,Ki,hm]
 omega
theorem YB(vk vb:Value)(k b:List UInt8)(hk:k.length=16)(hl:b.length<=140737488351232)(w:World)(hvk:Bs w w.heap.size vk k)(hvb:Bs w w.heap.size vb b):
 Calls Try.prog 68 #[vk,vb] w fun e w'=>∃v',e=.returned (.tuple #[v',.int .i64 0])/\OwnB w' w.heap.size v' (zE k b)/\Below w.heap.size w w':=by
 obtain⟨A0,n0,c0,rfl⟩:=hvb.form
 have hn:=Bs.lenEq hvb
 subst hn
 have Hk:=iH hvk;have Hb:=iH hvb;have Lk:=iH hk;have Lb:=iH hl;have Hm:=Qp;clear hvk hvb hk hl
 go_enter Try.func68,Try.ntmps68
 go_upto_if 34 with (fail)
 refine(zt vk _ k Z16 Lk.out qi (wz w) (Hk.out.lift (kC w)) (QH w).bs).mono ?_
 rintro e w1 ⟨v1,rfl,hv1,hB1⟩
 have hv1:Bs w1 w1.heap.size v1 (qZ k Z16):=by unfold qZ;exact hv1
 have HB1:=iH hB1;have HV1:=iH hv1;clear hB1 hv1;clear hv1
 go_upto_if 34 with (fail)
 refine(zY v1 (qZ k Z16) (kE _ _) w1 HV1.out).mono ?_
 rintro e w2 ⟨v2,rfl,hv2,hB2⟩
 have HB2:=iH (HB1.out.trans (hB2.mono HB1.out.size));have HV2:=iH hv2.bs;clear hB2 hv2
 go_upto_if 34 with (fail)
 refine(jN _ b _ ((Hb.out.lift (kC w)).lift HB2.out)).mono ?_
 rintro e w3 ⟨v3,rfl,hown,hB3⟩
 have HB3:=iH (HB2.out.trans (hB3.mono HB2.out.size));have HV3:=iH (HV2.out.lift hB3);have Hown:=iH hown;clear hB3 hown
 go_upto_region 7 with (fail)
 obtain⟨o,Ho⟩:∃o:Bool,Hid (o=decide (kL b)):=⟨_,iH rfl⟩
 go_cut [34] from 26 to 34 (fun c wc=>c=.bool o/\wc=w3)
 case first=>
  by_cases h0:b.length=0
  ·have t1:((b.length:Int)==0)=true:=by rw [beq_iff_eq];omega
   have ho:decide (kL b)=true:=decide_eq_true (Or.inl h0)
   have HO:=iH ho;clear h0 ho
   go_wp2_with fail
   go_meet
   exact⟨by rw [Ho.out,HO.out],rfl⟩
  ·have t1:((b.length:Int)==0)=false:=by rw [beq_eq_false_iff_ne];omega
   by_cases h1:b.length % 16=0
   ·have t2:((b.length:Int) % 16 != 0)=false:=by rw [bne_eq_false_iff_eq];omega
    have ho:decide (kL b)=false:=decide_eq_false (fun e=>e.elim h0 (fun e=>e h1))
    have HO:=iH ho;clear h0 h1 ho
    go_wp2_with fail
    go_meet
    exact⟨by rw [Ho.out,HO.out],rfl⟩
   ·have t2:((b.length:Int) % 16 != 0)=true:=by rw [bne_iff_ne];omega
    have ho:decide (kL b)=true:=decide_eq_true (Or.inr h1)
    have HO:=iH ho;clear h0 h1 ho
    go_wp2_with fail
    go_meet
    exact⟨by rw [Ho.out,HO.out],rfl⟩
 case rest=>
 obtain⟨rfl,rfl⟩:=hcut
 go_upto_if 34 with (fail)
 go_cut [7,9] from 13 to 41 (fun vk vx wc=>Bs wc wc.heap.size vk (yB k b)/\OwnB wc (wz w).heap.size vx (zF b)/\Below (wz w).heap.size (wz w) wc)
 case first=>
  cases o with
  |true=>
   have ho:kL b:=of_decide_eq_true Ho.out.symm
   have eK:yB k b=VZ (VR k):=iT ho
   have eX:zF b=xI b:=iT ho
   have Rest:∀w4,Below wc.heap.size wc w4->Calls Try.prog 46 #[.slice A0 b.length c0] w4 (fun e w5=>∃v5,e=.returned v5/\OwnB w5 w4.heap.size v5 (xI b)/\Below w4.heap.size w4 w5):=
    fun w4 h4=>KN _ b Lb.out w4 (((Hb.out.lift (kC w)).lift HB3.out).lift h4)
   have Fin:∀w4 v4 w5 v5,BsS w4 (New wc w4) v4 (VZ (VR k))->Below wc.heap.size wc w4->OwnB w5 w4.heap.size v5 (xI b)->Below w4.heap.size w4 w5->Bs w5 w5.heap.size v4 (yB k b)/\OwnB w5 (wz w).heap.size v5 (zF b)/\Below (wz w).heap.size (wz w) w5:=by
    intro w4 v4 w5 v5 h1 h2 h3 h4
    rw [eK,eX]
    refine⟨h1.bs.lift h4,Jn h3 (Nat.le_trans HB3.out.size h2.size),(HB3.out.trans (h2.mono HB3.out.size)).trans (h4.mono (Nat.le_trans HB3.out.size h2.size))⟩
   have REST:=iH Rest;have FIN:=iH Fin
   clear Rest Fin eK eX ho
   go_wp2_with fail
   refine(zY v2 (VR k) (QD k) _ HV3.out).mono ?_
   rintro e w4 ⟨v4,rfl,h1,h2⟩
   have H1:=iH h1;have H2:=iH h2;clear h1 h2
   go_wp2_with fail
   refine(REST.out w4 H2.out).mono ?_
   rintro e w5 ⟨v5,rfl,h3,h4⟩
   have H5:=iH (FIN.out _ _ _ _ H1.out H2.out h3 h4)
   clear h3 h4
   go_wp2_with fail
   go_meet
   exact H5.out
  |false=>
   have ho:¬kL b:=of_decide_eq_false Ho.out.symm
   have eK:yB k b=VR k:=iF ho
   have eX:zF b=b:=iF ho
   have H5:Hid (Bs wc wc.heap.size v2 (yB k b)/\OwnB wc (wz w).heap.size v3 (zF b)/\Below (wz w).heap.size (wz w) wc):=by
    rw [eK,eX]
    exact⟨HV3.out,Jn Hown.out HB2.out.size,HB3.out⟩
   clear eK eX ho
   go_wp2_with fail
   go_meet
   exact H5.out
 case rest=>
 obtain⟨hk7,hx9,hB⟩:=hcut
 obtain⟨m,hm⟩:=JJ b
 obtain⟨x,hX⟩:∃x,x=zF b:=⟨_,rfl⟩
 obtain⟨kk,hKK⟩:∃kk,kk=yB k b:=⟨_,rfl⟩
 have hkl:kk.length=16:=by rw [hKK,Z5]
 rw [<-hX]at hx9 hm
 rw [<-hKK]at hk7
 have hbs:=(BsS.of_own hx9 (by have:=Lb.out;rw [hX];unfold zF;split;(rw [kt];have:=kP b.length;omega);omega)).keep (w':=wc) (S':=fun b=>b<wc.heap.size) fun g hg _=>⟨rfl,hg.2⟩
 obtain⟨M,hM⟩:∃M,M=16*m:=⟨_,rfl⟩
 rw [<-hM]at hm
 obtain⟨hl9,hx9⟩:=hx9
 rw [hm]at hx9
 rcases hx9 with ⟨_,h0⟩|⟨g,cap,cur,rfl,hg,hh,hc,hcm,hsz,htk⟩
 ·exact absurd h0 (by omega)
 rw [Nat.mul_one]at hsz htk
 have HH:=iH hh;have HG:=iH hg;have HC:=iH hcm;have HS:=iH hsz;have HT:=iH htk;have HX:=iH hX;have HKK:=iH hKK;have HKL:=iH hkl;have HM:=iH hm;have HB:=iH hB;have HK:=iH hk7;have HBS:=iH hbs;have HMM:=iH hM
 clear hh hg hcm hsz htk hX hKK hkl hm hB hk7 hbs hM hl9 HB1 HV1 HB2 HV2 HB3 HV3 Hown Hm
 have hM2:M+16<=140737488355328:=by have:=HBS.out.len;rw [HM.out]at this;omega
 have hcM:M+16<=cap:=hc
 have hw:wrap64 (M:Int)=M:=IntWalk.wrap64_in _ (by omega)
 have n1:¬cap=M:=by omega
 have n2:(M:Int)<=(M:Int)+16:=by omega
 have hsl:Bs wc wc.heap.size (.slice (some ⟨g,M,none⟩) 16 (cap - M)) (x.drop M):=by
  have h:=j0b HBS.out M (by rw [HM.out];omega)
  rwa [Nat.zero_add,Nat.add_sub_cancel_left]at h
 have HSL:=iH hsl;clear hsl
 have hcur:cur.toList.toArray=cur:=by simp
 have HCUR:=iH hcur
 clear hcur
 have c5:Calls Try.prog 60 #[.slice (some ⟨g,M,none⟩) 16 (cap - M),u7] wc.drew fun e w5=>∃A5 c5,e=.returned (.slice A5 16 c5)/\Hid (SrcAt w5 A5 16 ((xU (x.drop M) kk).map U8))/\Hid (w5.heap[g]?=some (.cells cur.toList.toArray 5 (0,0)))/\Hid (Below (wz w).heap.size (wz w) w5):=by
  refine(Ja _ _ (x.drop M) kk (by rw [List.length_drop,HM.out];omega) HKL.out wc.drew HSL.out HK.out).mono ?_
  rintro e w5 ⟨v5,rfl,hv5,hb5⟩
  obtain⟨A5,n5,c5,rfl⟩:=hv5.form
  obtain⟨hn5,hsrc⟩:=hv5.src
  obtain rfl:n5=16:=by rw [hn5,jP]
  refine⟨A5,c5,rfl,iH hsrc,?_,iH (HB.out.drew.trans (hb5.mono HB.out.size))⟩
  rw [HCUR.out]
  exact iH ((hb5.block g (iG HH.out)).trans HH.out)
 have C5:=iH c5;clear c5
 go_upto_region 10 with (fail)
 go_region_law (first
  |(refine step_copy_splice rfl (.tmp 44) (.tmp 49) 23 23 rfl 5 Try.underlying23 (by kernel_rfl) (some ⟨g,M,none⟩) A5 16 (cap - M) 16 c5 (by simp [Act.eval]) (by simp [Act.eval]) g M cur.toList 5 HH5.out ((xU (x.drop M) kk).map U8) (by rw [List.length_map,jP]<;>rfl) (fun _=>⟨rfl,HSRC.out.2.1 (by omega)⟩) (by rw [List.length_map,jP,Array.length_toList];have:=HS.out;omega) HSRC.out.2.2 (wz w).heap.size (wz w) HB5.out HG.out ?_
    intro w6 h6 hb6)
  |(go_simp
    go_at_call 60
    refine C5.out.mono ?_
    rintro e w5 ⟨A5,c5,rfl,HSRC,HH5,HB5⟩))
 have hown6:=Xm (kk:=kk) HM.out HG.out (by rw [Array.length_toList];exact HS.out) hcM HC.out HT.out h6.out
 have hL:(xB x kk).length=16*(m+1):=by rw [yb _ (by rw [HM.out];omega),HM.out,HMM.out];omega
 have hbs6:Bs w6 w6.heap.size (.slice (some ⟨g,0,none⟩) (M+16) cap) (xB x kk):=(BsS.of_own hown6 (by rw [hL];have:=HMM.out;omega)).keep fun _ hg _=>⟨rfl,hg.2⟩
 have C6:=iH (ZP vk (.slice (some ⟨w.heap.size,0,none⟩) 16 16) (.slice (some ⟨g,0,none⟩) (M+16) cap) k Z16 (xB x kk) (m+1) Lk.out qi hL w6 ((Hk.out.lift (kC w)).lift hb6) ((QH w).bs.lift hb6) hbs6)
 have HL:=iH hL;have HB6:=iH hb6
 clear hown6 hL hbs6 hb6 h6
 go_wp2_with fail
 refine C6.out.mono ?_
 rintro e w7 ⟨v7,rfl,hv7,hb7⟩
 have hl7:(kR k Z16 (xB x kk)).length=M+16:=by rw [xL k Z16 (xB x kk) HL.out,Ki,HMM.out];omega
 obtain⟨A7,n7,c7,rfl⟩:=hv7.form
 obtain rfl:n7=M+16:=by have:=Bs.lenEq hv7;omega
 have hc7:M+16<=c7:=by obtain⟨_,_,e,h,_⟩:=hv7;injection e with _ _ e3;omega
 obtain⟨zb,zo,rfl⟩:=UH hv7 (by omega)
 have c8:=UM hv7.bs M (by omega) 16 (c7 - M) (by omega) rfl
 have C8:=iH (jN _ _ w7 c8)
 have HB7:=iH (HB6.out.trans (hb7.mono HB6.out.size))
 have n3:¬c7=M:=by omega
 clear c8 hv7 hb7 hl7
 go_wp2_with fail
 refine C8.out.mono ?_
 rintro e w8 ⟨v8,rfl,hown,hb8⟩
 have hfin:OwnB w8 w.heap.size v8 (zE k b)/\Below w.heap.size w w8:=by
  have hb:=HB7.out.trans (hb8.mono HB7.out.size)
  have e:zE k b=(kR k Z16 (xB x kk)).drop M:=by unfold zE;rw [iT Lk.out,<-HX.out,<-HKK.out,HM.out,Nat.add_sub_cancel]
  rw [e]
  exact⟨Jn hown (Nat.le_trans (kC w).size HB7.out.size),(kC w).trans (hb.mono (kC w).size)⟩
 have Hfin:=iH hfin;clear hfin hown hb8
 go_wp2_with fail
 go_ret2
 exact⟨v8,rfl,Hfin.out⟩
theorem OwnB.slot2{w:World}{base:Nat}{A:Option Addr}{c:Nat}{l:List UInt8}(h:OwnB w base (.slice A l.length c) l)(hl:0<l.length):
 ∃g,A=some ⟨g,0,none⟩/\base<=g/\g<w.heap.size/\l.length<=c/\c<=9223372036854775807/\(∀j,j<l.length->w.cell? ⟨g,j,none⟩=some (U8 (gb l j)))/\∀j,w.frozen? ⟨g,j,none⟩=false:=by
 have hc:=fun g=>World.ownsRow.cells h (g:=g)
 rcases h.2 with ⟨e,h0⟩|⟨g,cap,cur,hv,hb,hh,hn,hm,r⟩
 ·omega
 ·injection hv with e1 _ e3
  subst e1 e3
  refine⟨g,rfl,hb,(iG hh),hn,hm,fun j hj=> ?_,fun j=>by simp [World.frozen?,hh]⟩
  have:=hc g rfl j (U8 (gb l j)) (ky l j hj)
  have e:(⟨g,0,none⟩:Addr).add j=⟨g,0+j,none⟩:=by unfold Addr.add;split<;>simp_all
  rwa [e,Nat.zero_add]at this
def OwnS(w:World)(base:Nat)(v:Value)(l:List UInt8):Prop:=∃g c,v=.slice (some ⟨g,0,none⟩) l.length c/\base<=g/\g<w.heap.size/\l.length<=c/\c<=9223372036854775807/\(∀j,j<l.length->w.cell? ⟨g,j,none⟩=some (U8 (gb l j)))/\∀o,w.frozen? ⟨g,o,none⟩=false
theorem OwnS.bs{w w0:World}{v:Value}{l:List UInt8}(h:OwnS w w0.heap.size v l)(hl:l.length<=140737488355328):BsS w (New w0 w) v l:=by
 obtain⟨g,c,e,h1,h2,h3,h4,h5,_⟩:=h
 exact⟨_,c,e,h3,h4,hl,fun _=>⟨g,0,rfl,⟨h1,h2⟩,fun j hj=>by rw [Nat.zero_add];exact h5 j hj⟩⟩
theorem OwnS.of_own{w:World}{base c:Nat}{A:Option Addr}{l:List UInt8}(h:OwnB w base (.slice A l.length c) l)(hl:0<l.length)(k:Nat)(hk:k<=l.length):OwnS w base (.slice A k k) (l.take k):=by
 obtain⟨g,rfl,h1,h2,h3,h4,h5,h6⟩:=OwnB.slot2 h hl
 have e:(l.take k).length=k:=by rw [List.length_take];omega
 refine⟨g,k,by rw [e],h1,h2,by omega,by omega,fun j hj=> ?_,h6⟩
 rw [h5 j (by omega)]
 simp only [gb,List.getD_eq_getElem?_getD]
 rw [List.getElem?_take,iT (by omega)]
theorem XZ(vk vb:Value)(k b:List UInt8)(hk:k.length=16)(hl:b.length<=140737488351232)(w:World)(hvk:Bs w w.heap.size vk k)(hvb:Bs w w.heap.size vb b):
 Calls Try.prog 51 #[vk,vb] w fun e w'=>∃v',e=.returned (.tuple #[v',.int .i64 0])/\OwnS w' w.heap.size v' ((zE k b).take 8)/\Below w.heap.size w w':=by
 have C:=iH (YB vk vb k b hk hl w hvk hvb)
 have L:=iH (zX hk b)
 clear hvk hvb hk hl
 go_enter Try.func51,Try.ntmps51
 go_wp2_with fail
 refine C.out.mono ?_
 rintro e w1 ⟨v1,rfl,hv0,hB⟩
 have hv1:Bs w1 w1.heap.size v1 (zE k b):=(hv0.out (by rw [L.out];omega) w iL).keep fun _ hs _=>⟨rfl,hs.2⟩
 obtain⟨A1,n1,c1,rfl⟩:=hv1.form
 obtain rfl:n1=16:=by rw [Bs.lenEq hv1];exact L.out
 have hv9:OwnB w1 w.heap.size (.slice A1 (zE k b).length c1) (zE k b):=by rw [L.out];exact hv0
 have hc1:16<=c1:=by obtain⟨_,_,e,h,_⟩:=hv1;rw [L.out]at h;injection e with _ _ e3;omega
 have Hfin:=iH (show OwnS w1 w.heap.size (.slice A1 8 8) ((zE k b).take 8)/\Below w.heap.size w w1 from⟨OwnS.of_own hv9 (by rw [L.out];omega) 8 (by rw [L.out];omega),hB⟩)
 clear hv1 hB hv0 hv9
 have n1:(8:Int)<=c1:=by omega
 have n2:8<=c1:=by omega
 go_wp2_with fail
 go_ret2
 exact⟨_,rfl,Hfin.out⟩
def K4(v:List UInt8):Int:=v.foldl (fun n b=>256*n+bv b) 0
theorem OwnB.fresh(w:World)(l:List UInt8)(xs:Array Value)(hx:xs.toList=l.map U8)(base:Nat)(hb:base<=w.heap.size)(hl:l.length<=9223372036854775807):
 OwnB (w.alloc (.cells xs 5)) base (.slice (some ⟨w.heap.size,0,none⟩) l.length l.length) l:=by
 have hs:xs.size=l.length:=by rw [<-Array.length_toList,hx];simp
 refine⟨by simp,.inr ⟨w.heap.size,l.length,xs,rfl,hb,iN,Nat.le_refl _,hl,by omega,?_⟩⟩
 rw [hx,Nat.mul_one]
 exact List.take_of_length_le (by simp)
theorem BsS.fresh(w:World)(l:List UInt8)(xs:Array Value)(t:TypeId)(hx:xs.toList=l.map U8)(S:Nat->Prop)(hS:S w.heap.size)(hl:l.length<=140737488355328):
 BsS (w.alloc (.cells xs t)) S (.slice (some ⟨w.heap.size,0,none⟩) l.length l.length) l:=by
 refine⟨_,_,rfl,Nat.le_refl _,by omega,hl,fun _=>⟨w.heap.size,0,rfl,hS,fun j hj=> ?_⟩⟩
 rw [Nat.zero_add,cell_of_row _ _ _ _ _ _ (iN),<-Array.getElem?_toList,hx]
 exact ky l j hj
def XE(k:Int):List UInt8:=[ofI (k)]
theorem j0n(w:World):(Instr.makeSlice 23 (.int .i64 1) (.int .i64 1)).run Try.prog w=.ok (.slice (some ⟨w.heap.size,0,none⟩) 1 1) (w.alloc (.cells #[.int .u8 0] 5)):=by kernel_rfl
def YY(k:Int)(j:Nat):Array Value:=#[U8 (if 1<=j then ofI (k)else 0)]
theorem U2(k:Int)(w:World)(h0:0<=k)(h1:k<256):Calls Try.prog 29 #[.int .i64 k,.int .i64 1] w fun e w'=>∃v',e=.returned (.tuple #[v',.int .i64 0])/\OwnB w' w.heap.size v' (XE k)/\Below w.heap.size w w':=by
 have g1:decide (k<0)=false:=decide_eq_false (by omega)
 have g2:(k / 256 != 0)=false:=by simp;omega
 have hm:=j0n w
 have hB0:Below w.heap.size w (w.alloc (.cells #[.int .u8 0] 5)):=iA
 have HB0:=iH hB0
 clear hB0
 go_enter Try.func29,Try.ntmps29
 go_wp2_with fail
 go_loopg [26] 1 (fun m i wr=>∃j n:Nat,n=m/\j+n=1/\i=.int .i64 j/\wr.heap[w.heap.size]?=some (.cells (YY k j) 5 (0,0))/\Below w.heap.size w wr)
 case atStart=>exact⟨0,1,rfl,rfl,rfl,iN,HB0.out⟩
 case round=>
  obtain⟨j,n,rfl,hj,rfl,hr,hb⟩:=hrel
  have HB:=iH hb;have HR:=iH hr
  have hf:∀o,wr.frozen? ⟨w.heap.size,o,none⟩=false:=fun o=>by simp [World.frozen?,hr]
  have hc:∀o,o<1->wr.cell? ⟨w.heap.size,o,none⟩=(YY k j)[o]? :=fun o ho=>by rw [cell_of_row _ _ _ _ _ _ hr]
  clear hr hb
  obtain rfl|rfl:j=0\/j=1:=by omega
  ·obtain rfl:n=1:=by omega
   go_wp2_with fail
   go_roundg 0
   case measure=>omega
   case rel=>
    have hs:=jb (o:=0) (v:=.int .u8 (k)) HR.out
    rw [show(YY k 0).set! 0 (.int .u8 (k))=YY k 1 by rw [show Value.int .u8 (k)=U8 (ofI (k))by rw [<-j4,Int.emod_eq_of_lt (by omega) (by omega)]]<;>rfl]at hs
    exact⟨1,0,rfl,rfl,rfl,hs,HB.out.setCell iL _⟩
  ·obtain rfl:n=0:=by omega
   go_wp2_with fail
   go_ret2
   exact⟨_,rfl,⟨by simp [XE],.inr ⟨w.heap.size,1,_,rfl,Nat.le_refl _,HR.out,Nat.le_refl _,by decide,rfl,rfl⟩⟩,HB.out⟩
def kV(k:Int):List UInt8:=[ofI (k / 256),ofI (k)]
theorem j0o(w:World):(Instr.makeSlice 23 (.int .i64 2) (.int .i64 2)).run Try.prog w=.ok (.slice (some ⟨w.heap.size,0,none⟩) 2 2) (w.alloc (.cells #[.int .u8 0,.int .u8 0] 5)):=by kernel_rfl
def YZ(k:Int)(j:Nat):Array Value:=#[U8 (if 2<=j then ofI (k / 256)else 0),U8 (if 1<=j then ofI (k)else 0)]
theorem Jl(k:Int)(w:World)(h0:0<=k)(h1:k<65536):Calls Try.prog 29 #[.int .i64 k,.int .i64 2] w fun e w'=>∃v',e=.returned (.tuple #[v',.int .i64 0])/\OwnB w' w.heap.size v' (kV k)/\Below w.heap.size w w':=by
 have g1:decide (k<0)=false:=decide_eq_false (by omega)
 have g2:(k / 65536 != 0)=false:=by simp;omega
 have hm:=j0o w
 have hB0:Below w.heap.size w (w.alloc (.cells #[.int .u8 0,.int .u8 0] 5)):=iA
 have HB0:=iH hB0
 clear hB0
 go_enter Try.func29,Try.ntmps29
 go_wp2_with fail
 go_loopg [26] 2 (fun m i wr=>∃j n:Nat,n=m/\j+n=2/\i=.int .i64 j/\wr.heap[w.heap.size]?=some (.cells (YZ k j) 5 (0,0))/\Below w.heap.size w wr)
 case atStart=>exact⟨0,2,rfl,rfl,rfl,iN,HB0.out⟩
 case round=>
  obtain⟨j,n,rfl,hj,rfl,hr,hb⟩:=hrel
  have HB:=iH hb;have HR:=iH hr
  have hf:∀o,wr.frozen? ⟨w.heap.size,o,none⟩=false:=fun o=>by simp [World.frozen?,hr]
  have hc:∀o,o<2->wr.cell? ⟨w.heap.size,o,none⟩=(YZ k j)[o]? :=fun o ho=>by rw [cell_of_row _ _ _ _ _ _ hr]
  clear hr hb
  obtain rfl|rfl|rfl:j=0\/j=1\/j=2:=by omega
  ·obtain rfl:n=2:=by omega
   go_wp2_with fail
   go_roundg 1
   case measure=>omega
   case rel=>
    have hs:=jb (o:=1) (v:=.int .u8 (k % 256)) HR.out
    rw [show Value.int .u8 (k % 256)=U8 (ofI (k)) from j4 (k)]at hs
    exact⟨1,1,rfl,rfl,rfl,hs,HB.out.setCell iL _⟩
  ·obtain rfl:n=1:=by omega
   go_wp2_with fail
   go_roundg 0
   case measure=>omega
   case rel=>
    have hs:=jb (o:=0) (v:=.int .u8 (k / 256)) HR.out
    rw [show(YZ k 1).set! 0 (.int .u8 (k / 256))=YZ k 2 by rw [show Value.int .u8 (k / 256)=U8 (ofI (k / 256))by rw [<-j4,Int.emod_eq_of_lt (by omega) (by omega)]]<;>rfl]at hs
    exact⟨2,0,rfl,rfl,rfl,hs,HB.out.setCell iL _⟩
  ·obtain rfl:n=0:=by omega
   go_wp2_with fail
   go_ret2
   exact⟨_,rfl,⟨by simp [kV],.inr ⟨w.heap.size,2,_,rfl,Nat.le_refl _,HR.out,Nat.le_refl _,by decide,rfl,rfl⟩⟩,HB.out⟩
def j02(k:Int):List UInt8:=[ofI (k / 281474976710656),ofI (k / 1099511627776),ofI (k / 4294967296),ofI (k / 16777216),ofI (k / 65536),ofI (k / 256),ofI (k)]
theorem zO(k:Int):(j02 k).length=7:=rfl
theorem j0p(w:World):(Instr.makeSlice 23 (.int .i64 7) (.int .i64 7)).run Try.prog w=.ok (.slice (some ⟨w.heap.size,0,none⟩) 7 7) (w.alloc (.cells #[.int .u8 0,.int .u8 0,.int .u8 0,.int .u8 0,.int .u8 0,.int .u8 0,.int .u8 0] 5)):=by kernel_rfl
def U1(k:Int)(j:Nat):Array Value:=#[U8 (if 7<=j then ofI (k / 281474976710656)else 0),U8 (if 6<=j then ofI (k / 1099511627776)else 0),U8 (if 5<=j then ofI (k / 4294967296)else 0),U8 (if 4<=j then ofI (k / 16777216)else 0),U8 (if 3<=j then ofI (k / 65536)else 0),U8 (if 2<=j then ofI (k / 256)else 0),U8 (if 1<=j then ofI (k)else 0)]
theorem U9(k:Int)(w:World)(h0:0<=k)(h1:k<72057594037927936):Calls Try.prog 29 #[.int .i64 k,.int .i64 7] w fun e w'=>∃v',e=.returned (.tuple #[v',.int .i64 0])/\OwnB w' w.heap.size v' (j02 k)/\Below w.heap.size w w':=by
 have g1:decide (k<0)=false:=decide_eq_false (by omega)
 have g2:(k / 72057594037927936 != 0)=false:=by simp;omega
 have hm:=j0p w
 have hB0:Below w.heap.size w (w.alloc (.cells #[.int .u8 0,.int .u8 0,.int .u8 0,.int .u8 0,.int .u8 0,.int .u8 0,.int .u8 0] 5)):=iA
 have HB0:=iH hB0
 clear hB0
 go_enter Try.func29,Try.ntmps29
 go_wp2_with fail
 go_loopg [26] 7 (fun m i wr=>∃j n:Nat,n=m/\j+n=7/\i=.int .i64 j/\wr.heap[w.heap.size]?=some (.cells (U1 k j) 5 (0,0))/\Below w.heap.size w wr)
 case atStart=>exact⟨0,7,rfl,rfl,rfl,iN,HB0.out⟩
 case round=>
  obtain⟨j,n,rfl,hj,rfl,hr,hb⟩:=hrel
  have HB:=iH hb;have HR:=iH hr
  have hf:∀o,wr.frozen? ⟨w.heap.size,o,none⟩=false:=fun o=>by simp [World.frozen?,hr]
  have hc:∀o,o<7->wr.cell? ⟨w.heap.size,o,none⟩=(U1 k j)[o]? :=fun o ho=>by rw [cell_of_row _ _ _ _ _ _ hr]
  clear hr hb
  obtain rfl|rfl|rfl|rfl|rfl|rfl|rfl|rfl:j=0\/j=1\/j=2\/j=3\/j=4\/j=5\/j=6\/j=7:=by omega
  ·obtain rfl:n=7:=by omega
   go_wp2_with fail
   go_roundg 6
   case measure=>omega
   case rel=>
    have hs:=jb (o:=6) (v:=.int .u8 (k % 256)) HR.out
    rw [show Value.int .u8 (k % 256)=U8 (ofI (k)) from j4 (k)]at hs
    exact⟨1,6,rfl,rfl,rfl,hs,HB.out.setCell iL _⟩
  ·obtain rfl:n=6:=by omega
   go_wp2_with fail
   go_roundg 5
   case measure=>omega
   case rel=>
    have hs:=jb (o:=5) (v:=.int .u8 (k / 256 % 256)) HR.out
    rw [show Value.int .u8 (k / 256 % 256)=U8 (ofI (k / 256)) from j4 (k / 256)]at hs
    exact⟨2,5,rfl,rfl,rfl,hs,HB.out.setCell iL _⟩
  ·obtain rfl:n=5:=by omega
   go_wp2_with fail
   go_roundg 4
   case measure=>omega
   case rel=>
    have hs:=jb (o:=4) (v:=.int .u8 (k / 65536 % 256)) HR.out
    rw [show Value.int .u8 (k / 65536 % 256)=U8 (ofI (k / 65536)) from j4 (k / 65536)]at hs
    exact⟨3,4,rfl,rfl,rfl,hs,HB.out.setCell iL _⟩
  ·obtain rfl:n=4:=by omega
   go_wp2_with fail
   go_roundg 3
   case measure=>omega
   case rel=>
    have hs:=jb (o:=3) (v:=.int .u8 (k / 16777216 % 256)) HR.out
    rw [show Value.int .u8 (k / 16777216 % 256)=U8 (ofI (k / 16777216)) from j4 (k / 16777216)]at hs
    exact⟨4,3,rfl,rfl,rfl,hs,HB.out.setCell iL _⟩
  ·obtain rfl:n=3:=by omega
   go_wp2_with fail
   go_roundg 2
   case measure=>omega
   case rel=>
    have hs:=jb (o:=2) (v:=.int .u8 (k / 4294967296 % 256)) HR.out
    rw [show Value.int .u8 (k / 4294967296 % 256)=U8 (ofI (k / 4294967296)) from j4 (k / 4294967296)]at hs
    exact⟨5,2,rfl,rfl,rfl,hs,HB.out.setCell iL _⟩
  ·obtain rfl:n=2:=by omega
   go_wp2_with fail
   go_roundg 1
   case measure=>omega
   case rel=>
    have hs:=jb (o:=1) (v:=.int .u8 (k / 1099511627776 % 256)) HR.out
    rw [show Value.int .u8 (k / 1099511627776 % 256)=U8 (ofI (k / 1099511627776)) from j4 (k / 1099511627776)]at hs
    exact⟨6,1,rfl,rfl,rfl,hs,HB.out.setCell iL _⟩
  ·obtain rfl:n=1:=by omega
   go_wp2_with fail
   go_roundg 0
   case measure=>omega
   case rel=>
    have hs:=jb (o:=0) (v:=.int .u8 (k / 281474976710656)) HR.out
    rw [show(U1 k 6).set! 0 (.int .u8 (k / 281474976710656))=U1 k 7 by rw [show Value.int .u8 (k / 281474976710656)=U8 (ofI (k / 281474976710656))by rw [<-j4,Int.emod_eq_of_lt (by omega) (by omega)]]<;>rfl]at hs
    exact⟨7,0,rfl,rfl,rfl,hs,HB.out.setCell iL _⟩
  ·obtain rfl:n=0:=by omega
   go_wp2_with fail
   go_ret2
   exact⟨_,rfl,⟨by simp [j02],.inr ⟨w.heap.size,7,_,rfl,Nat.le_refl _,HR.out,Nat.le_refl _,by decide,rfl,rfl⟩⟩,HB.out⟩
theorem Uf(n b:Nat)(hn:n<36028797018963968)(hb:b<256):bits .or .i64 ((n:Int)*256) (b:Int)=(n:Int)*256+b:=by
 have h1:(BitVec.ofInt 64 ((n*256:Nat):Int)).toNat=n*256:=by
  rw [BitVec.ofInt_natCast,BitVec.toNat_ofNat];exact Nat.mod_eq_of_lt (by omega)
 have h2:(BitVec.ofInt 64 (b:Int)).toNat=b:=by
  rw [BitVec.ofInt_natCast,BitVec.toNat_ofNat];exact Nat.mod_eq_of_lt (by omega)
 have h3:n*256 ||| b=n*256+b:=by
  have:=Nat.two_pow_add_eq_or_of_lt (i:=8) (b:=b) (by omega) n
  rw [Nat.mul_comm]at this
  exact this.symm
 have e:(n:Int)*256=((n*256:Nat):Int):=by omega
 rw [e]
 show IntKind.i64.wrap ((BitVec.ofInt 64 ((n*256:Nat):Int) ||| BitVec.ofInt 64 (b:Int)).toNat:Int)=_
 rw [BitVec.toNat_or,h1,h2,h3,IntKind.wrap_i64]
 omega
theorem K6{l:List UInt8}{j:Nat}(h:j<l.length):K4 (l.take (j+1))=K4 (l.take j)*256+bv (gb l j):=by
 unfold K4
 rw [List.take_succ_eq_append_getElem h,List.foldl_append]
 simp [gb,h]
 omega
theorem Vw(l:List UInt8):∀j,j<=l.length->0<=K4 (l.take j)/\K4 (l.take j)<256 ^ j:=by
 intro j
 induction j with
 |zero=>intro _;exact⟨Int.le_refl _,show(0:Int)<1 by decide⟩
 |succ j ih=>
  intro h
  have:=ih (by omega)
  have b0:=jF (gb l j);have b1:=jJ (gb l j)
  rw [K6 (by omega),Int.pow_succ]
  omega
def K3(l:List UInt8):Int×Int:=if 7<l.length then(0,2)else(K4 l,0)
theorem KA(l:List UInt8)(v:Value)(S:Nat->Prop)(w:World)(hv:BsS w S v l):Calls Try.prog 40 #[v] w fun e w'=>e=.returned (.tuple #[.int .i64 (K3 l).1,.int .i64 (K3 l).2])/\w'=w:=by
 obtain⟨a,c,rfl⟩:=hv.form2
 have hll:=hv.len
 have HV:=iH hv
 clear hv
 by_cases h7:7<l.length
 ·have E:Hid (K3 l=(0,2)):=by show _=_;unfold K3;rw [iT h7]
  rw [E.out]
  go_enter Try.func40,Try.ntmps40
  go_wp2_with fail
  go_ret2
  exact⟨rfl,rfl⟩
 ·have E:Hid (K3 l=(K4 l,0)):=by show _=_;unfold K3;rw [iF h7]
  rw [E.out]
  clear E
  go_enter Try.func40,Try.ntmps40
  go_wp2_with fail
  go_loopg [12,4] l.length (fun m i n wr=>∃j X r:Nat,r=m/\j+r=l.length/\i=.int .i64 j/\n=.int .i64 X/\Hid ((X:Int)=K4 (l.take j))/\wr=w)
  case atStart=>exact⟨0,0,l.length,rfl,by omega,rfl,rfl,iH rfl,rfl⟩
  case round=>
   obtain⟨j,X,m,rfl,hj,rfl,rfl,hX,rfl⟩:=hrel
   rcases Nat.eq_zero_or_pos m with h0|h0
   ·subst h0
    have hj':j=l.length:=by omega
    have HXE:Hid ((X:Int)=K4 l):=iH (by have:=hX.out;rwa [hj',List.take_length]at this)
    subst hj'
    clear hX
    go_wp2_with fail
    go_ret2
    rw [HXE.out]
    exact⟨rfl,rfl⟩
   ·obtain⟨m,rfl⟩:∃k,m=k+1:=⟨m - 1,by omega⟩
    have hlt:j<l.length:=by omega
    have hin:=Vw l j (by omega)
    have hxb:(X:Int)<256 ^ j:=by rw [hX.out];exact hin.2
    have hp:(256:Int) ^ j<=256 ^ 6:=by exact_mod_cast Nat.pow_le_pow_right (by decide) (show j<=6 by omega)
    have hx6:X<281474976710656:=by have:(256:Int) ^ 6=281474976710656:=by decide
                                   omega
    obtain⟨y,hy⟩:∃y:Nat,y=(gb l j).toNat:=⟨_,rfl⟩
    have hyl:y<256:=by rw [hy];exact UInt8.toNat_lt _
    have q1:∃b off,a=some ⟨b,off,none⟩/\wr.cell? ⟨b,off+j,none⟩=some (.int .u8 (y:Int)):=by
     obtain⟨a',c',e,_,_,_,h4⟩:=HV.out
     injection e with e1 e2 e3
     subst e1
     obtain⟨b,off,e2,_,hc⟩:=h4 (by omega)
     exact⟨b,off,e2,by rw [hy];exact hc j hlt⟩
    obtain⟨b,off,rfl,q2⟩:=q1
    have o1:=Uf X y (by omega) hyl
    have HN:Hid (((X*256+y:Nat):Int)=K4 (l.take (j+1))):=iH (by rw [K6 hlt,<-hX.out];show _=_+((gb l j).toNat:Int);rw [<-hy];omega)
    clear hX hin hxb hp hy
    go_wp2_with fail
    go_roundg m
    case measure=>omega
    case rel=>exact⟨j+1,X*256+y,m,rfl,by omega,by go_num,by first|rfl|(congr 1),HN,rfl⟩
def xF(n:Int):List UInt8:=List.replicate 9 0++j02 n
theorem YV(n:Int):(xF n).length=16:=rfl
def wz9(w:World):World:=w.alloc (.cells (kx 9 fun _=>0) 5)
theorem j1e(w:World):(Instr.makeSlice 23 (.int .i64 9) (.int .i64 9)).run Try.prog w=.ok (.slice (some ⟨w.heap.size,0,none⟩) 9 9) (wz9 w):=by kernel_rfl
theorem UJ(w:World):Below w.heap.size w (wz9 w):=iA
theorem j1r(w:World):OwnB (wz9 w) w.heap.size (.slice (some ⟨w.heap.size,0,none⟩) 9 9) (List.replicate 9 0):=
 ⟨rfl,.inr ⟨w.heap.size,9,_,rfl,Nat.le_refl _,iN,Nat.le_refl _,by decide,rfl,rfl⟩⟩
theorem xD(va vb:Value)(k1 k2:List UInt8)(n:Int)(h0:0<=n)(h1:n<=1099511627776)(w:World)(ha:Bs w w.heap.size va k1)(hb:Bs w w.heap.size vb k2):
 Calls Try.prog 27 #[.agg #[va,vb,.int .i64 n]] w fun e w'=>∃x y z,e=.returned (.agg #[x,y,.int .i64 (n+1),z])/\Bs w' w'.heap.size x k1/\Bs w' w'.heap.size y k2/\Bs w' w'.heap.size z (xF (n+1))/\Below w.heap.size w w':=by
 obtain⟨A1,n1,d1,rfl⟩:=ha.form
 obtain⟨A2,n2,d2,rfl⟩:=hb.form
 obtain⟨w0,hw0⟩:∃w0,w0=w.alloc (.cells #[.slice A1 n1 d1,.slice A2 n2 d2,.int .i64 n] 29):=⟨_,rfl⟩
 have hB0:Below w.heap.size w w0:=by rw [hw0];exact iA
 have hz0:w0.heap.size=w.heap.size+1:=by rw [hw0];simp
 have hh0:w0.heap[w.heap.size]?=some (.cells #[.slice A1 n1 d1,.slice A2 n2 d2,.int .i64 n] 29 (0,0)):=by rw [hw0];exact iN
 obtain⟨wa,hwa⟩:∃wa,wa=w0.alloc (.cells #[.slice none 0 0,.slice none 0 0,.int .i64 0,.slice none 0 0] 56):=⟨_,rfl⟩
 have hBa:Below w0.heap.size w0 wa:=by rw [hwa];exact iA
 have hra:wa.heap[w.heap.size+1]?=some (.cells #[.slice none 0 0,.slice none 0 0,.int .i64 0,.slice none 0 0] 56 (0,0)):=by rw [hwa,<-hz0];exact iN
 have hh1:=(hBa.block w.heap.size (by omega)).trans hh0
 have hlt:=(iG hh1)
 have CS:Hid (∀W,Below wa.heap.size wa W->W.cell? ⟨w.heap.size,0,none⟩=some (.slice A1 n1 d1)/\W.cell? ⟨w.heap.size,1,none⟩=some (.slice A2 n2 d2)/\W.cell? ⟨w.heap.size,2,none⟩=some (.int .i64 n)):=iH fun W h=>(by obtain⟨a,b,c,_⟩:=j9 ((h.block w.heap.size hlt).trans hh1);exact⟨a,b,c⟩)
 have HB:=iH (hB0.trans (hBa.mono hB0.size))
 have H1:=iH ha;have H2:=iH hb;have HRA:=iH hra
 have WN:Hid (IntKind.i64.wrap (n+1)=n+1):=iH (IntWalk.i64_in _ (by omega))
 have HW0:=iH hw0;have HWA:=iH hwa
 clear ha hb hw0 hB0 hh0 hwa hBa hra hh1 hlt hz0
 go_enter Try.func27,Try.ntmps27
 go_upto_region 1 with fail
 rw [<-HW0.out,<-HWA.out]
 refine jc 12 [some 6,some 7,some 8,some 9,some 10,some 11,some 12,some 13,some 14,some 15,some 16,some 3] [[],[0],[0,1],[],[3],[0,1,2,3,4],[],[6],[6,7],[0,1,2,3,4,5,6,7,8],[0,1,2,3,4,5,6,7,8,9],[]]
  (fun _ _ w1=>Below wa.heap.size wa w1) (fun w1 w2=>Below w1.heap.size w1 w2)
  [fun v _=>v 0=.pointer (some ⟨w.heap.size,0,none⟩),
   fun v _=>v 1=.slice A1 n1 d1,
   fun v w1=>∃a c,v 2=.slice a (k1).length c/\Bs w1 w1.heap.size (.slice a (k1).length c) (k1),
   fun v _=>v 3=.pointer (some ⟨w.heap.size,1,none⟩),
   fun v _=>v 4=.slice A2 n2 d2,
   fun v w1=>∃a c,v 5=.slice a (k2).length c/\Bs w1 w1.heap.size (.slice a (k2).length c) (k2),
   fun v _=>v 6=.pointer (some ⟨w.heap.size,2,none⟩),
   fun v _=>v 7=.int .i64 n,
   fun v _=>v 8=.int .i64 (n+1),
   fun v w1=>∃a c a' c',v 9=.agg #[.slice a k1.length c,.slice a' k2.length c',.int .i64 (n+1)]/\Bs w1 w1.heap.size (.slice a k1.length c) k1/\Bs w1 w1.heap.size (.slice a' k2.length c') k2,
   fun v w1=>∃a c a' c',v 10=.agg #[.slice a k1.length c,.slice a' k2.length c',.int .i64 (n+1),.slice none 0 0]/\Bs w1 w1.heap.size (.slice a k1.length c) k1/\Bs w1 w1.heap.size (.slice a' k2.length c') k2,
   fun v w1=>∃g,v 11=.pointer (some ⟨g,0,none⟩)/\w1.heap[g]?=some (.cells #[.slice none 0 0,.slice none 0 0,.int .i64 0,.slice none 0 0] 56 (0,0))/\wa.heap.size<=g]
  (by kernel_rfl) (by kernel_rfl) (fun _=>iB.drew) ?st ?steps ?tail
 case st=>
  exact(.cons (fun _ _ _ _ _ _ h=>h) (.cons (fun _ _ _ _ _ _ h=>h) (.cons (fun _ _ _ _ _ hr ⟨a,c,e,h⟩=>⟨a,c,e,h.lift hr⟩) (.cons (fun _ _ _ _ _ _ h=>h) (.cons (fun _ _ _ _ _ _ h=>h) (.cons (fun _ _ _ _ _ hr ⟨a,c,e,h⟩=>⟨a,c,e,h.lift hr⟩) (.cons (fun _ _ _ _ _ _ h=>h) (.cons (fun _ _ _ _ _ _ h=>h) (.cons (fun _ _ _ _ _ _ h=>h) (.cons (fun _ _ _ _ _ hr ⟨a,c,a',c',e,h,h'⟩=>⟨a,c,a',c',e,h.lift hr,h'.lift hr⟩) (.cons (fun _ _ _ _ _ hr ⟨a,c,a',c',e,h,h'⟩=>⟨a,c,a',c',e,h.lift hr,h'.lift hr⟩) (.cons (fun _ _ _ _ _ hr ⟨g,e,h,hg⟩=>⟨g,e,(hr.block g (iG h)).trans h,hg⟩) .nil))))))))))))
 case steps=>
  simp only [iI,iK]
  refine(.cons ?_ (.cons ?_ (.cons ?_ (.cons ?_ (.cons ?_ (.cons ?_ (.cons ?_ (.cons ?_ (.cons ?_ (.cons ?_ (.cons ?_ (.cons ?_ .nil))))))))))))
  all_goals(intro L v w1 hJ hL hA hF K hK;simp only [ja,Act.put,iM,Nat.reduceAdd,iS,iC,iD]at hK |-)
  ·go_simp
   refine hK _ _ hJ iB ?_
   first|exact rfl|exact j4 _
  ·have e0:v 0=.pointer (some ⟨w.heap.size,0,none⟩):=hF 0 (hA 0 (by simp))
   obtain⟨c0,c1,c2⟩:=CS.out _ hJ
   simp only [e0]at hK
   go_simp
   refine hK _ _ hJ iB ?_
   first|exact rfl|exact j4 _
  ·have e1:v 1=.slice A1 n1 d1:=hF 1 (hA 1 (by simp))
   simp only [e1]at hK
   go_simp
   refine(jN _ k1 w1 ((H1.out.lift HB.out).lift hJ)).mono ?_
   rintro e w5 ⟨v5,rfl,ho,hb⟩
   have hx:Bs w5 w5.heap.size v5 k1:=OwnB.rd ho (H1.out.len)
   obtain⟨A5,C5,hv5⟩:=Bs.formL hx
   subst hv5
   exact hK _ _ (hJ.trans (hb.mono hJ.size)) hb ⟨_,_,rfl,hx⟩
  ·go_simp
   refine hK _ _ hJ iB ?_
   first|exact rfl|exact j4 _
  ·have e3:v 3=.pointer (some ⟨w.heap.size,1,none⟩):=hF 3 (hA 3 (by simp))
   obtain⟨c0,c1,c2⟩:=CS.out _ hJ
   simp only [e3]at hK
   go_simp
   refine hK _ _ hJ iB ?_
   first|exact rfl|exact j4 _
  ·have e4:v 4=.slice A2 n2 d2:=hF 4 (hA 4 (by simp))
   simp only [e4]at hK
   go_simp
   refine(jN _ k2 w1 ((H2.out.lift HB.out).lift hJ)).mono ?_
   rintro e w5 ⟨v5,rfl,ho,hb⟩
   have hx:Bs w5 w5.heap.size v5 k2:=OwnB.rd ho (H2.out.len)
   obtain⟨A5,C5,hv5⟩:=Bs.formL hx
   subst hv5
   exact hK _ _ (hJ.trans (hb.mono hJ.size)) hb ⟨_,_,rfl,hx⟩
  ·go_simp
   refine hK _ _ hJ iB ?_
   first|exact rfl|exact j4 _
  ·have e6:v 6=.pointer (some ⟨w.heap.size,2,none⟩):=hF 6 (hA 6 (by simp))
   obtain⟨c0,c1,c2⟩:=CS.out _ hJ
   simp only [e6]at hK
   go_simp
   refine hK _ _ hJ iB ?_
   first|exact rfl|exact j4 _
  ·have e7:v 7=.int .i64 n:=hF 7 (hA 7 (by simp))
   simp only [e7]at hK
   go_simp
   refine hK _ _ hJ iB ?_
   show Value.int .i64 (IntKind.i64.wrap (n+1))=_
   rw [WN.out]
  ·have e8:v 8=.int .i64 (n+1):=hF 8 (hA 8 (by simp))
   simp only [e8]at hK
   obtain⟨a2,c2,e2,h2⟩:∃a c,v 2=.slice a (k1).length c/\Bs w1 w1.heap.size (.slice a (k1).length c) (k1):=hF 2 (hA 2 (by simp))
   obtain⟨a5,c5,e5,h5⟩:∃a c,v 5=.slice a (k2).length c/\Bs w1 w1.heap.size (.slice a (k2).length c) (k2):=hF 5 (hA 5 (by simp))
   simp only [e2,e5]at hK
   go_simp
   exact hK _ _ hJ iB ⟨_,_,_,_,rfl,h2,h5⟩
  ·obtain⟨a,c,a',c',e9,h9,h9'⟩:∃a c a' c',v 9=.agg #[.slice a k1.length c,.slice a' k2.length c',.int .i64 (n+1)]/\Bs w1 w1.heap.size (.slice a k1.length c) k1/\Bs w1 w1.heap.size (.slice a' k2.length c') k2:=hF 9 (hA 9 (by simp))
   simp only [e9]at hK
   go_simp
   exact hK _ _ hJ iB ⟨_,_,_,_,rfl,h9,h9'⟩
  ·go_simp
   have hz:=(Below.refl w1.heap.size w1).alloc iL (.cells #[.slice none 0 0,.slice none 0 0,.int .i64 0,.slice none 0 0] 56)
   exact hK _ _ (hJ.trans (hz.mono hJ.size)) hz ⟨_,rfl,iN,hJ.size⟩
 case tail=>
  intro v w1 hJ hF
  have e0:v 0=.pointer (some ⟨w.heap.size,0,none⟩):=hF 0 (by simp)
  have e1:v 1=.slice A1 n1 d1:=hF 1 (by simp)
  have e3:v 3=.pointer (some ⟨w.heap.size,1,none⟩):=hF 3 (by simp)
  have e4:v 4=.slice A2 n2 d2:=hF 4 (by simp)
  have e6:v 6=.pointer (some ⟨w.heap.size,2,none⟩):=hF 6 (by simp)
  have e7:v 7=.int .i64 n:=hF 7 (by simp)
  have e8:v 8=.int .i64 (n+1):=hF 8 (by simp)
  obtain⟨a,c,a',c',e10,h10,h10'⟩:∃a c a' c',v 10=.agg #[.slice a k1.length c,.slice a' k2.length c',.int .i64 (n+1),.slice none 0 0]/\Bs w1 w1.heap.size (.slice a k1.length c) k1/\Bs w1 w1.heap.size (.slice a' k2.length c') k2:=hF 10 (by simp)
  obtain⟨g,e11,hg,hgs⟩:∃g,v 11=.pointer (some ⟨g,0,none⟩)/\w1.heap[g]?=some (.cells #[.slice none 0 0,.slice none 0 0,.int .i64 0,.slice none 0 0] 56 (0,0))/\wa.heap.size<=g:=hF 11 (by simp)
  simp only [iE,iJ,ja,Act.put,iM,Nat.reduceAdd,iS,iC,iD]
  simp only [e10,e11]
  clear e0 e1 e3 e4 e6 e7 e8 e10 e11
  have HX:=iH h10;have HY:=iH h10';have HG:=iH hg;have HGS:=iH hgs;have HJ:=iH hJ
  obtain⟨z0,z1,z2,z3,zf⟩:=jz hg
  have zf0:=zf 0;have zf1:=zf 1;have zf2:=zf 2;have zf3:=zf 3;clear zf
  clear h10 h10' hg hgs hJ hF
  go_upto_region 2 with fail
  obtain⟨w2,hw2⟩:∃w2,w2=ZR w1 g (.slice a k1.length c) (.slice a' k2.length c') (.int .i64 (n+1)) (.slice none 0 0):=⟨_,rfl⟩
  have hw3:=hw2
  simp only [ZR]at hw3
  rw [<-hw3]
  clear hw3
  have NB:=iH (j1h (a:=.slice none 0 0) (b:=.slice none 0 0) (c:=.int .i64 0) (d:=.slice none 0 0) (by simp) (by simp) (by simp) (by simp))
  have HX2:Hid (Bs w2 w2.heap.size (.slice a k1.length c) k1):=iH (by rw [hw2];exact(BsS.keep (HX.out.off HG.out NB.out) fun j hs _=>⟨zm hs.2,by rw [yn];exact hs.1⟩))
  have HY2:Hid (Bs w2 w2.heap.size (.slice a' k2.length c') k2):=iH (by rw [hw2];exact(BsS.keep (HY.out.off HG.out NB.out) fun j hs _=>⟨zm hs.2,by rw [yn];exact hs.1⟩))
  have HG2:Hid (w2.heap[g]?=some (.cells #[.slice a k1.length c,.slice a' k2.length c',.int .i64 (n+1),.slice none 0 0] 56 (0,0))):=iH (by rw [hw2];exact QC _ _ _ _ HG.out)
  have HJ2:Hid (Below wa.heap.size wa w2):=iH (by rw [hw2];exact yS HJ.out HGS.out)
  clear hw2 z0 z1 z2 z3 zf0 zf1 zf2 zf3
  obtain⟨z0,z1,z2,z3,zf⟩:=jz HG2.out
  clear zf
  have O7:=iH (U9 (n+1) w2 (by omega) (by omega))
  go_upto_region 4 with (first
   |(go_at_call 29;refine O7.out.mono ?_;rintro e w3 ⟨v3,rfl,ho,hb⟩;obtain⟨oA,oc,hv3⟩:=ho.form;rw [zO]at hv3;subst hv3;have HO3:Hid (Bs w3 w3.heap.size (.slice oA 7 oc) (j02 (n+1))):=iH (OwnB.rd ho (by rw [zO];omega));have HB3:=iH hb;have H9:=iH (j1r w3);have hm9:=j1e w3;clear ho hb z0 z1 z2 z3)
   |(at_builtin;go_loud((with_reducible refine jp rfl (.tmp 24) (.tmp 25) rfl w3.heap.size (.slice (some ⟨w3.heap.size,0,none⟩) 9 9) (List.replicate 9 0) rfl H9.out oA 7 oc (j02 (n+1)) (·<(wz9 w3).heap.size) rfl (HO3.out.lift (UJ w3)) (by rw [zO];simp) (UJ w3).size ?_);intro v4 w4 hgr;have hb4:Below w3.heap.size w3 w4:=(iA).trans hgr.2.1;have HN4:Hid (Bs w4 w4.heap.size v4 (xF (n+1))):=iH (OwnB.rd (w:=w3) (l:=xF (n+1)) hgr.1 (by rw [YV];omega));obtain⟨nA,nc,hv4⟩:=hgr.1.form;rw [List.length_append,zO,List.length_replicate]at hv4;subst hv4;have hg4:w4.heap[g]?=some (.cells #[.slice a k1.length c,.slice a' k2.length c',.int .i64 (n+1),.slice none 0 0] 56 (0,0)):=(hb4.block g (iZ (iG HG2.out) HB3.out.size)).trans ((HB3.out.block g (iG HG2.out)).trans HG2.out);have HG4:=iH hg4;have H34:=iH hb4;have HB4:=iH (HB3.out.trans (hb4.mono HB3.out.size));obtain⟨z0,z1,z2,z3,zf⟩:=jz hg4;have zf3:=zf 3;clear zf hg4 hb4 hgr hm9)))
  have NB2:=iH (j1h (a:=.slice a k1.length c) (b:=.slice a' k2.length c') (c:=.int .i64 (n+1)) (d:=.slice none 0 0) (by simp) (by simp) (by simp) (by simp))
  obtain⟨w5,hw5⟩:∃w5,w5=w4.setCell ⟨g,3,none⟩ (.slice nA (9+7) nc):=⟨_,rfl⟩
  rw [<-hw5]
  have NX5:∀ {v l},Bs w4 w4.heap.size v l->Bs w5 w5.heap.size v l:=fun h=>by rw [hw5];exact Bs.setr h _ HG4.out NB2.out
  have HX5:=iH (NX5 ((HX2.out.lift HB3.out).lift H34.out));have HY5:=iH (NX5 ((HY2.out.lift HB3.out).lift H34.out));have HN5:=iH (NX5 HN4.out)
  have HG5:Hid (w5.heap[g]?=some (.cells #[.slice a k1.length c,.slice a' k2.length c',.int .i64 (n+1),.slice nA (9+7) nc] 56 (0,0))):=iH (by rw [hw5];exact jb (o:=3) HG4.out)
  have HJ5:Hid (Below wa.heap.size wa w5):=iH (by rw [hw5];exact(HJ2.out.trans (HB4.out.mono HJ2.out.size)).setCell HGS.out _)
  clear hw5 z0 z1 z2 z3 zf3 NX5
  obtain⟨z0,z1,z2,z3,zf⟩:=jz HG5.out
  clear zf
  have HR5:Hid (w5.heap[w.heap.size+1]?=some (.cells #[.slice none 0 0,.slice none 0 0,.int .i64 0,.slice none 0 0] 56 (0,0))):=iH ((HJ5.out.block _ (iG HRA.out)).trans HRA.out)
  obtain⟨r0,r1,r2,r3,rf⟩:=jz HR5.out
  have rf0:=rf 0;have rf1:=rf 1;have rf2:=rf 2;have rf3:=rf 3;clear rf
  obtain⟨y0,y1,y2,y3,_⟩:=jz (QC (.slice a k1.length c) (.slice a' k2.length c') (.int .i64 (n+1)) (.slice nA (9+7) nc) HR5.out)
  have NB0:=iH (j1h (a:=.slice none 0 0) (b:=.slice none 0 0) (c:=.int .i64 0) (d:=.slice none 0 0) (by simp) (by simp) (by simp) (by simp))
  go_wp2_with fail
  refine bodyPost_ret (v:=.agg #[.slice a k1.length c,.slice a' k2.length c',.int .i64 (n+1),.slice nA (9+7) nc]) (by simp only [ZR]at y0 y1 y2 y3;simp [results,Try.results27,go_sem,y0,y1,y2,y3]) rfl ?_
  have hk:∀ {v l},Bs w5 w5.heap.size v l->Bs (ZR w5 (w.heap.size+1) (.slice a k1.length c) (.slice a' k2.length c') (.int .i64 (n+1)) (.slice nA (9+7) nc)) (ZR w5 (w.heap.size+1) (.slice a k1.length c) (.slice a' k2.length c') (.int .i64 (n+1)) (.slice nA (9+7) nc)).heap.size v l:=fun h=>BsS.keep (h.off HR5.out NB0.out) fun j hs _=>⟨zm hs.2,by rw [yn];exact hs.1⟩
  exact⟨_,_,_,rfl,hk HX5.out,hk HY5.out,hk HN5.out,yS (HB.out.trans (HJ5.out.mono HB.out.size)) (by omega)⟩
theorem Ua{w w0:World}{v:Value}{l:List UInt8}(h:BsS w (New w0 w) v l):BsS w (zI w0.heap.size w (.slice none 0 0)) v l:=BsS.keep h fun g hg _=>⟨rfl,hg.2,by simp [Value.ownBlock],hg.1⟩
theorem j17:jW 135:=⟨by decide,by decide⟩
theorem j0g(w:World){base:Nat}(hb:base<=w.heap.size):OwnB (w.alloc (.cells #[.int .u8 1] 5)) base (.slice (some ⟨w.heap.size,0,none⟩) 1 1) [1]:=OwnB.fresh w [1] #[.int .u8 1] rfl base hb (by decide)
def j6(k N d:List UInt8):Ns:=if d= []then .nil else .cons 135 (1 :: kR k (qZ k N) (xI d)) .nil .nil
theorem j1f(vk v:Value)(k l:List UInt8)(h1:k.length=16)(h2:l.length=16)(w:World)(hk:Bs w w.heap.size vk k)(hv:Bs w w.heap.size v l):
 Calls Try.prog 61 #[vk,v] w fun e w'=>∃v',e=.returned (.tuple #[v',.int .i64 0])/\Bs w' w'.heap.size v' (qZ k l)/\Below w.heap.size w w':=by
 have h:=zt vk v k l h1 h2 w hk hv
 unfold qZ
 exact h
theorem yg(ua ub uc:Value)(un:Int)(k N:List UInt8)(lk:k.length=16)(ln:N.length=16)(w:World)(ha:Bs w w.heap.size ua k)(hc:Bs w w.heap.size uc N):
 Calls Try.prog 45 #[.agg #[ua,ub,.int .i64 un,uc]] w fun e w'=>∃v',e=.returned v'/\Bs w' w'.heap.size v' (qZ k N)/\Below w.heap.size w w':=by
 obtain⟨A1,n1,d1,rfl⟩:=ha.form
 obtain⟨A3,n3,d3,rfl⟩:=hc.form
 obtain⟨w0,hw0⟩:∃w0,w0=w.alloc (.cells #[.slice A1 n1 d1,ub,.int .i64 un,.slice A3 n3 d3] 56):=⟨_,rfl⟩
 have hB0:Below w.heap.size w w0:=by rw [hw0];exact iA
 have hh0:w0.heap[w.heap.size]?=some (.cells #[.slice A1 n1 d1,ub,.int .i64 un,.slice A3 n3 d3] 56 (0,0)):=by rw [hw0];exact iN
 have hlt0:=(iG hh0)
 have CS:Hid (∀W,Below w0.heap.size w0 W->W.cell? ⟨w.heap.size,0,none⟩=some (.slice A1 n1 d1)/\W.cell? ⟨w.heap.size,1,none⟩=some ub/\W.cell? ⟨w.heap.size,2,none⟩=some (.int .i64 un)/\W.cell? ⟨w.heap.size,3,none⟩=some (.slice A3 n3 d3)):=iH fun W h=>(by obtain⟨a,b,c,d,_⟩:=jz ((h.block w.heap.size hlt0).trans hh0);exact⟨a,b,c,d⟩)
 have HE:=iH (j1f _ _ k N lk ln w0 (ha.lift hB0) (hc.lift hB0))
 have HB0:=iH hB0;have HW0:=iH hw0
 clear ha hc hB0 hw0 hh0 hlt0 lk ln
 go_enter Try.func45,Try.ntmps45
 go_upto_region 1 with fail
 rw [<-HW0.out]
 obtain⟨c0,c1,c2,c3⟩:=CS.out w0 iB
 go_wp2_with(go_at_call 61;refine HE.out.mono ?_;rintro e w1 ⟨v1,rfl,hs,hb⟩;have HS:=iH hs;have HB1:=iH hb;clear hs hb c0 c1 c2 c3)
 go_ret
 exact⟨_,rfl,HS.out,HB0.out.trans (HB1.out.mono HB0.out.size)⟩
theorem yN(ua ub uc vd:Value)(un:Int)(k N d:List UInt8)(lk:k.length=16)(ln:N.length=16)(ld:d.length<=4096)(w:World)(ha:Bs w w.heap.size ua k)(hc:Bs w w.heap.size uc N)(hd:Bs w w.heap.size vd d):
 Calls Try.prog 28 #[.agg #[ua,ub,.int .i64 un,uc],.slice none 0 0,vd] w fun e w'=>∃o,e=.returned o/\OwnN w' w.heap.size o (j6 k N d)/\Below w.heap.size w w':=by
 obtain⟨A1,n1,d1,rfl⟩:=ha.form
 obtain⟨A3,n3,d3,rfl⟩:=hc.form
 obtain⟨AD,nd,dd,rfl⟩:=hd.form
 obtain rfl:=Bs.lenEq hd
 obtain⟨w0,hw0⟩:∃w0,w0=w.alloc (.cells #[.slice A1 n1 d1,ub,.int .i64 un,.slice A3 n3 d3] 56):=⟨_,rfl⟩
 have hB0:Below w.heap.size w w0:=by rw [hw0];exact iA
 have hh0:w0.heap[w.heap.size]?=some (.cells #[.slice A1 n1 d1,ub,.int .i64 un,.slice A3 n3 d3] 56 (0,0)):=by rw [hw0];exact iN
 have hlt0:=(iG hh0)
 have CS:Hid (∀W,Below w0.heap.size w0 W->W.cell? ⟨w.heap.size,0,none⟩=some (.slice A1 n1 d1)/\W.cell? ⟨w.heap.size,1,none⟩=some ub/\W.cell? ⟨w.heap.size,2,none⟩=some (.int .i64 un)/\W.cell? ⟨w.heap.size,3,none⟩=some (.slice A3 n3 d3)):=iH fun W h=>(by obtain⟨a,b,c,d,_⟩:=jz ((h.block w.heap.size hlt0).trans hh0);exact⟨a,b,c,d⟩)
 have H1:=iH (ha.lift hB0);have H3:=iH (hc.lift hB0);have HD:=iH (hd.lift hB0)
 have HB:=iH hB0;have HW0:=iH hw0;have LN:=iH ln;have LK:=iH lk;have LD:=iH ld
 clear ha hc hd hB0 hw0 hh0 hlt0 lk ln ld
 by_cases h0:d= []
 ·subst h0
  go_enter Try.func28,Try.ntmps28
  go_upto_region 1 with fail
  rw [<-HW0.out]
  go_wp2_with fail
  go_ret
  exact⟨_,rfl,OwnN.nil _ _,HB.out⟩
 ·have t1:((d.length:Int)==0)=false:=by
   have:=List.length_pos_iff.2 h0
   simp
   exact h0
  have HNE:=iH h0
  clear h0
  obtain⟨V9,hV⟩:∃V,qZ k N=V:=⟨_,rfl⟩
  obtain⟨P9,hP⟩:∃P,xI d=P:=⟨_,rfl⟩
  obtain⟨S9,hS⟩:∃S,kR k V9 P9=S:=⟨_,rfl⟩
  have lv:V9.length=16:=by rw [<-hV];exact kE _ _
  have lp:P9.length=16*((d.length+1+zG d.length) / 16):=by rw [<-hP];exact kT d
  have ls:S9.length=16*((d.length+1+zG d.length) / 16):=by rw [<-hS,xL k V9 P9 lp,Ki]
  have LP:Hid (P9.length<=5000):=iH (by have:=kP d.length;have:=LD.out;omega)
  have hL1:Hid (S9.length<=5000):=iH (by have:=kP d.length;have:=LD.out;omega)
  have HS9:Hid (kR k (qZ k N) (xI d)=S9):=iH (by rw [hV,hP];exact hS)
  have HVC:Hid (∀(ua ub uc:Value) (un:Int) (w:World),Bs w w.heap.size ua k->Bs w w.heap.size uc N->Calls Try.prog 45 #[.agg #[ua,ub,.int .i64 un,uc]] w fun e w'=>∃v',e=.returned v'/\Bs w' w'.heap.size v' V9/\Below w.heap.size w w'):=iH (fun ua ub uc un w h1 h2=>by rw [<-hV];exact yg ua ub uc un k N LK.out LN.out w h1 h2)
  have HPD:Hid (∀(v:Value) (w:World),Bs w w.heap.size v d->Calls Try.prog 46 #[v] w fun e w'=>∃v',e=.returned v'/\OwnB w' w.heap.size v' P9/\Below w.heap.size w w'):=iH (fun v w h=>by rw [<-hP];exact KN v d (by have:=LD.out;omega) w h)
  have HSE:Hid (∀(vk vi vb:Value) (w:World),Bs w w.heap.size vk k->Bs w w.heap.size vi V9->Bs w w.heap.size vb P9->Calls Try.prog 44 #[vk,vi,vb] w fun e w'=>∃v',e=.returned (.tuple #[v',.int .i64 0])/\OwnB w' w.heap.size v' S9/\Below w.heap.size w w'):=iH (fun vk vi vb w h1 h2 h3=>by rw [<-hS];exact QA vk vi vb k V9 P9 _ LK.out lv lp w h1 h2 h3)
  clear hV hP hS lv lp ls
  go_enter Try.func28,Try.ntmps28
  go_upto_region 1 with fail
  rw [<-HW0.out]
  go_upto_region 3 with fail
  refine jc 13 [some 14,some 15,some 16,some 17,some 18,some 19,some 20,some 21,some 13,some 22,some 23,some 7,some 8] [[],[0],[0,1],[],[3],[],[3,4,5],[0,1,2,3,4,5,6],[0,1,2,3,4,5,6,7],[0,1,2,3,4,5,6,7,8],[0,1,2,3,4,5,6,7,8],[0,1,2,3,4,5,6,7,8,9],[0,1,2,3,4,5,6,7,8,9,10,11]]
   (fun _ _ w1=>Below w0.heap.size w0 w1) (fun w1 w2=>Below w1.heap.size w1 w2)
   [fun v _=>v 0=.pointer (some ⟨w.heap.size,0,none⟩),
    fun v _=>v 1=.pointer (some ⟨w.heap.size,0,none⟩),
    fun v _=>v 2=.slice A1 n1 d1,
    fun v _=>v 3=.agg #[.slice A1 n1 d1,ub,.int .i64 un,.slice A3 n3 d3],
    fun v w1=>∃a c,v 4=.slice a (V9).length c/\Bs w1 w1.heap.size (.slice a (V9).length c) (V9),
    fun v _=>v 5=.slice AD d.length dd,
    fun v w1=>∃a c,v 6=.slice a (P9).length c/\Bs w1 w1.heap.size (.slice a (P9).length c) (P9),
    fun v w1=>∃a c,v 7=.tuple #[.slice a (S9).length c,.int .i64 0]/\BsS w1 (New w w1) (.slice a (S9).length c) (S9),
    fun v w1=>∃a c,v 8=.tuple #[.slice a (S9).length c,.int .i64 0]/\BsS w1 (New w w1) (.slice a (S9).length c) (S9),
    fun v w1=>∃a c,v 9=.slice a (S9).length c/\BsS w1 (New w w1) (.slice a (S9).length c) (S9),
    fun v _=>v 10=.int .i64 0,
    fun v w1=>∃a c,v 11=.slice a (S9).length c/\BsS w1 (New w w1) (.slice a (S9).length c) (S9),
    fun v _=>v 12=.int .i64 0]
   (by kernel_rfl) (by kernel_rfl) (fun _=>iB.drew) ?st ?steps ?tail
  case st=>
   exact(.cons (fun _ _ _ _ _ _ h=>h) (.cons (fun _ _ _ _ _ _ h=>h) (.cons (fun _ _ _ _ _ _ h=>h) (.cons (fun _ _ _ _ _ _ h=>h) (.cons (fun _ _ _ _ _ hr ⟨a,c,e,h⟩=>⟨a,c,e,h.lift hr⟩) (.cons (fun _ _ _ _ _ _ h=>h) (.cons (fun _ _ _ _ _ hr ⟨a,c,e,h⟩=>⟨a,c,e,h.lift hr⟩) (.cons (fun _ _ _ _ _ hr ⟨a,c,e,h⟩=>⟨a,c,e,BsS.keep h fun g hg hl=>⟨hr.block g hl,hg.1,iZ hl hr.size⟩⟩) (.cons (fun _ _ _ _ _ hr ⟨a,c,e,h⟩=>⟨a,c,e,BsS.keep h fun g hg hl=>⟨hr.block g hl,hg.1,iZ hl hr.size⟩⟩) (.cons (fun _ _ _ _ _ hr ⟨a,c,e,h⟩=>⟨a,c,e,BsS.keep h fun g hg hl=>⟨hr.block g hl,hg.1,iZ hl hr.size⟩⟩) (.cons (fun _ _ _ _ _ _ h=>h) (.cons (fun _ _ _ _ _ hr ⟨a,c,e,h⟩=>⟨a,c,e,BsS.keep h fun g hg hl=>⟨hr.block g hl,hg.1,iZ hl hr.size⟩⟩) (.cons (fun _ _ _ _ _ _ h=>h) .nil)))))))))))))
  case steps=>
   simp only [iI,iK]
   refine(.cons ?_ (.cons ?_ (.cons ?_ (.cons ?_ (.cons ?_ (.cons ?_ (.cons ?_ (.cons ?_ (.cons ?_ (.cons ?_ (.cons ?_ (.cons ?_ (.cons ?_ .nil)))))))))))))
   all_goals(intro L v w1 hJ hL hA hF K hK;simp only [ja,Act.put,iM,Nat.reduceAdd,iS,iC,iD]at hK |-)
   ·go_simp
    refine hK _ _ hJ iB ?_
    first|exact rfl|exact j4 _
   ·have e0:v 0=.pointer (some ⟨w.heap.size,0,none⟩):=hF 0 (hA 0 (by simp))
    simp only [e0]at hK
    go_simp
    refine hK _ _ hJ iB ?_
    first|exact rfl|exact j4 _
   ·have e1:v 1=.pointer (some ⟨w.heap.size,0,none⟩):=hF 1 (hA 1 (by simp))
    obtain⟨c0,c1,c2,c3⟩:=CS.out _ hJ
    simp only [e1]at hK
    go_simp
    refine hK _ _ hJ iB ?_
    first|exact rfl|exact j4 _
   ·obtain⟨c0,c1,c2,c3⟩:=CS.out _ hJ
    go_simp
    refine hK _ _ hJ iB ?_
    first|exact rfl|exact j4 _
   ·have e3:v 3=.agg #[.slice A1 n1 d1,ub,.int .i64 un,.slice A3 n3 d3]:=hF 3 (hA 3 (by simp))
    simp only [e3]at hK
    go_simp
    refine(HVC.out _ _ _ _ w1 (H1.out.lift hJ) (H3.out.lift hJ)).mono ?_
    rintro e w5 ⟨v5,rfl,ho,hb⟩
    have hx:Bs w5 w5.heap.size v5 (V9):=ho
    obtain⟨A5,C5,hv5⟩:=Bs.formL hx
    subst hv5
    exact hK _ _ (hJ.trans (hb.mono hJ.size)) hb ⟨_,_,rfl,hx⟩
   ·go_simp
    refine hK _ _ hJ iB ?_
    first|exact rfl|exact j4 _
   ·have e5:v 5=.slice AD d.length dd:=hF 5 (hA 5 (by simp))
    simp only [e5]at hK
    go_simp
    refine(HPD.out _ w1 (HD.out.lift hJ)).mono ?_
    rintro e w5 ⟨v5,rfl,ho,hb⟩
    have hx:Bs w5 w5.heap.size v5 (P9):=OwnB.rd ho (by have:=LP.out;omega)
    obtain⟨A5,C5,hv5⟩:=Bs.formL hx
    subst hv5
    exact hK _ _ (hJ.trans (hb.mono hJ.size)) hb ⟨_,_,rfl,hx⟩
   ·have e2:v 2=.slice A1 n1 d1:=hF 2 (hA 2 (by simp))
    simp only [e2]at hK
    obtain⟨a4,c4,e4,h4⟩:∃a c,v 4=.slice a (V9).length c/\Bs w1 w1.heap.size (.slice a (V9).length c) (V9):=hF 4 (hA 4 (by simp))
    obtain⟨a6,c6,e6,h6⟩:∃a c,v 6=.slice a (P9).length c/\Bs w1 w1.heap.size (.slice a (P9).length c) (P9):=hF 6 (hA 6 (by simp))
    simp only [e4,e6]at hK
    go_simp
    refine(HSE.out _ _ _ w1 (H1.out.lift hJ) h4 h6).mono ?_
    rintro e w5 ⟨v5,rfl,ho,hb⟩
    have hx:BsS w5 (New w w5) v5 S9:=(ho.out (by have:=hL1.out;omega) w (Nat.le_trans HB.out.size hJ.size))
    obtain⟨A5,C5,hv5⟩:=Bs.formL hx
    subst hv5
    exact hK _ _ (hJ.trans (hb.mono hJ.size)) hb ⟨_,_,rfl,hx⟩
   ·obtain⟨a7,c7,e7,h7⟩:∃a c,v 7=.tuple #[.slice a (S9).length c,.int .i64 0]/\BsS w1 (New w w1) (.slice a (S9).length c) (S9):=hF 7 (hA 7 (by simp))
    simp only [e7]at hK
    go_simp
    exact hK _ _ hJ iB ⟨_,_,rfl,h7⟩
   ·obtain⟨a8,c8,e8,h8⟩:∃a c,v 8=.tuple #[.slice a (S9).length c,.int .i64 0]/\BsS w1 (New w w1) (.slice a (S9).length c) (S9):=hF 8 (hA 8 (by simp))
    simp only [e8]at hK
    go_simp
    exact hK _ _ hJ iB ⟨_,_,rfl,h8⟩
   ·obtain⟨a8,c8,e8,h8⟩:∃a c,v 8=.tuple #[.slice a (S9).length c,.int .i64 0]/\BsS w1 (New w w1) (.slice a (S9).length c) (S9):=hF 8 (hA 8 (by simp))
    simp only [e8]at hK
    go_simp
    exact hK _ _ hJ iB rfl
   ·obtain⟨a9,c9,e9,h9⟩:∃a c,v 9=.slice a (S9).length c/\BsS w1 (New w w1) (.slice a (S9).length c) (S9):=hF 9 (hA 9 (by simp))
    simp only [e9]at hK
    go_simp
    exact hK _ _ hJ iB ⟨_,_,rfl,h9⟩
   ·have e10:v 10=.int .i64 0:=hF 10 (hA 10 (by simp))
    simp only [e10]at hK
    go_simp
    refine hK _ _ hJ iB ?_
    first|exact rfl|exact j4 _
  case tail=>
   intro v w1 hJ hF
   have e0:v 0=.pointer (some ⟨w.heap.size,0,none⟩):=hF 0 (by simp)
   have e1:v 1=.pointer (some ⟨w.heap.size,0,none⟩):=hF 1 (by simp)
   have e2:v 2=.slice A1 n1 d1:=hF 2 (by simp)
   have e3:v 3=.agg #[.slice A1 n1 d1,ub,.int .i64 un,.slice A3 n3 d3]:=hF 3 (by simp)
   have e5:v 5=.slice AD d.length dd:=hF 5 (by simp)
   have e10:v 10=.int .i64 0:=hF 10 (by simp)
   have e12:v 12=.int .i64 0:=hF 12 (by simp)
   obtain⟨a11,c11,e11,h11⟩:∃a c,v 11=.slice a (S9).length c/\BsS w1 (New w w1) (.slice a (S9).length c) (S9):=hF 11 (by simp)
   simp only [iE,iJ,ja,Act.put,iM,Nat.reduceAdd,iS,iC,iD]
   simp only [e11]
   clear e0 e1 e2 e3 e5 e10 e11 e12
   have HS:=iH h11
   have HJ:=iH hJ
   have HBW:=iH (HB.out.trans (hJ.mono HB.out.size))
   clear h11 hJ hF
   have hal:Below w1.heap.size w1 (w1.alloc (.cells #[.int .u8 1] 5)):=iA
   have HAL:=iH hal
   clear hal
   go_wp2_with(first
    |(at_builtin;have M3:=HR3;((with_reducible refine jR rfl (.tmp 24) (.tmp 29) rfl w.heap.size (.slice none 0 0) .nil rfl (OwnN.nil _ _) 135 (1 :: S9) .nil (.slice rA (S9.length+1) rc) (.slice none 0 0) _ w3.heap.size rfl rfl j17 (Ua HR3.out) (NsS.nil0 _ _) (by decide) HB3.out.size ?_);intro o4 w4 hg4;have HO4:=iH hg4.1;have HB4:=iH (HB3.out.trans hg4.2.1);clear hg4))
    |(at_builtin;((with_reducible refine jp rfl (.tmp 25) (.tmp 26) rfl w.heap.size (.slice (some ⟨w1.heap.size,0,none⟩) 1 1) [1] rfl (j0g w1 HBW.out.size) a11 S9.length c11 S9 (New w (w1.alloc (.cells #[.int .u8 1] 5))) rfl (BsS.keep HS.out fun g hg hl=>⟨HAL.out.block g hl,hg.1,iZ hg.2 HAL.out.size⟩) (by have:=hL1.out;simp;omega) (Nat.le_trans HBW.out.size HAL.out.size) ?_);intro v3 w3 hgr;have HR3:Hid (BsS w3 (New w w3) v3 (1 :: S9)):=iH (hgr.1.out (l:=1 :: S9) (by have:=hL1.out;simp;omega) w iL);obtain⟨rA,rc,hv3⟩:∃A c,v3=.slice A (S9.length+1) c:=(by obtain⟨A,c,e⟩:=hgr.1.form;exact⟨A,c,e⟩);subst hv3;have HB3:=iH ((HBW.out.trans (HAL.out.mono HBW.out.size)).trans (hgr.2.1:Below _ _ _));clear hgr)))
   go_ret
   exact⟨_,rfl,by unfold j6;rw [iF HNE.out,HS9.out];exact HO4.out,HB4.out⟩
def ki(k2 N head b:List UInt8):List UInt8:=(zE k2 (N++(head++b))).take 8
theorem YE{L:Ns}{b:List UInt8}(h:xr L=.ok b):b.length<=4096:=by
 unfold xr at h
 split at h
 ·cases h
 ·split at h
  ·cases h
  ·split at h
   ·cases h
   ·injection h with e;rw [<-e];omega
theorem Jb{L:Ns}{x:Int}(h:xr L=.error x):(x==0)=false:=by
 unfold xr at h
 split at h
 ·rename_i h1;injection h with e;rw [<-e];simpa using h1
 ·split at h
  ·injection h with e;rw [<-e]<;>rfl
  ·split at h
   ·injection h with e;rw [<-e]<;>rfl
   ·cases h
theorem Ns.len_all(L:Ns):L.len<=L.all:=by
 induction L with
 |nil=>exact Nat.le_refl _
 |cons a b k r _ ih=>simp only [Ns.len,Ns.all];omega
theorem zP{w0 w1:World}{base:Nat}{o v:Value}{L:Ns}{l:List UInt8}(hO:OwnN w0 base o L)(hs:BsS w1 (New w0 w1) v l)(hb:Below w0.heap.size w0 w1)(hbase:base<=w0.heap.size):BsS w1 (zI base w1 o) v l:=
 BsS.keep hs fun g hg _=>⟨rfl,hg.2,fun e=>by have:=(OwnN.lt hO e).2;omega,Nat.le_trans hbase hg.1⟩
theorem Jh(ua ub uc vh o:Value)(un:Int)(k2 N head:List UInt8)(L:Ns)(l2:k2.length=16)(ln:N.length=16)(lh:head.length<=100)(ha:L.all<=10)(hle:L.enc.length<=10000)(b:List UInt8)(hE:xr L=.ok b)(w:World)(hb:Bs w w.heap.size ub k2)(hc:Bs w w.heap.size uc N)(hh:Bs w w.heap.size vh head)(hO:NsS w (·<w.heap.size) o L):
 Calls Try.prog 37 #[.agg #[ua,ub,.int .i64 un,uc],vh,o] w fun e w'=>∃A c,e=.returned (.tuple #[.slice A (ki k2 N head b).length c,.int .i64 0])/\BsS w' (New w w') (.slice A (ki k2 N head b).length c) (ki k2 N head b)/\Below w.heap.size w w':=by
 obtain⟨A2,n2,d2,rfl⟩:=hb.form
 obtain⟨A3,n3,d3,rfl⟩:=hc.form
 obtain⟨AH,nh,dh,rfl⟩:=hh.form
 obtain⟨w0,hw0⟩:∃w0,w0=w.alloc (.cells #[ua,.slice A2 n2 d2,.int .i64 un,.slice A3 n3 d3] 56):=⟨_,rfl⟩
 have hB0:Below w.heap.size w w0:=by rw [hw0];exact iA
 have hh0:w0.heap[w.heap.size]?=some (.cells #[ua,.slice A2 n2 d2,.int .i64 un,.slice A3 n3 d3] 56 (0,0)):=by rw [hw0];exact iN
 have hlt0:=(iG hh0)
 have CS:Hid (∀W,Below w0.heap.size w0 W->W.cell? ⟨w.heap.size,0,none⟩=some ua/\W.cell? ⟨w.heap.size,1,none⟩=some (.slice A2 n2 d2)/\W.cell? ⟨w.heap.size,2,none⟩=some (.int .i64 un)/\W.cell? ⟨w.heap.size,3,none⟩=some (.slice A3 n3 d3)):=iH fun W h=>(by obtain⟨a,b,c,d,_⟩:=jz ((h.block w.heap.size hlt0).trans hh0);exact⟨a,b,c,d⟩)
 have HE:=zd L o w0 (hO.keep fun g hg hl=>⟨hB0.block g hl,iZ hg hB0.size⟩) (by omega) (by omega)
 rw [hE]at HE
 have HE:=iH HE
 have lb:=YE hE
 have LB:=iH lb
 have LC:Hid ((ki k2 N head b).length<=8):=iH (by unfold ki;rw [List.length_take];omega)
 have H2:=iH (hb.lift hB0);have H3:=iH (hc.lift hB0);have HH:=iH (hh.lift hB0);have HB:=iH hB0;have HW0:=iH hw0
 obtain⟨C9,hC9⟩:∃C,ki k2 N head b=C:=⟨_,rfl⟩
 obtain⟨X8,hX8⟩:∃X,N++(head++b)=X:=⟨_,rfl⟩
 have HCK:Hid (∀(vk vb:Value) (w:World),Bs w w.heap.size vk k2->Bs w w.heap.size vb X8->Calls Try.prog 51 #[vk,vb] w fun e w'=>∃v',e=.returned (.tuple #[v',.int .i64 0])/\OwnS w' w.heap.size v' C9/\Below w.heap.size w w'):=iH (fun vk vb w h1 h2=>by rw [<-hC9];unfold ki;rw [hX8];exact XZ vk vb k2 _ l2 (by rw [<-hX8,List.length_append,List.length_append];omega) w h1 h2)
 have HCAT:Hid (∀(AB:Option Addr) (db g:Nat) (w1:World),w1.heap[g]?=some (.cells #[.slice A3 n3 d3,.slice AH nh dh,.slice AB b.length db] 23 (0,0))->Bs w1 w1.heap.size (.slice A3 n3 d3) N->Bs w1 w1.heap.size (.slice AH nh dh) head->Bs w1 w1.heap.size (.slice AB b.length db) b->Calls Try.prog 52 #[.slice (some ⟨g,0,none⟩) 3 3] w1 fun e w'=>∃v',e=.returned v'/\Bs w' w'.heap.size v' X8/\Below w1.heap.size w1 w'):=iH (fun AB db g w1 hg h1 h2 h3=>by
  have h:=QS [(.slice A3 n3 d3,N),(.slice AH nh dh,head),(.slice AB b.length db,b)] g (·<w1.heap.size) w1 23 hg (fun p hp=>by
   simp only [List.mem_cons,List.not_mem_nil,or_false]at hp
   rcases hp with rfl|rfl|rfl
   ·exact h1
   ·exact h2
   ·exact h3) (by simp [yx];omega) (by simp)
  have e:yx [(.slice A3 n3 d3,N),(.slice AH nh dh,head),(.slice AB b.length db,b)]=X8:=by rw [<-hX8];simp [yx]
  rw [e]at h
  exact h.mono fun e w' ⟨v',he,ho,hb⟩=>⟨v',he,OwnB.rd ho (by rw [<-hX8,List.length_append,List.length_append];omega),hb⟩)
 rw [hC9]at LC |-
 clear hb hc hh hO hB0 hw0 hh0 hlt0 hC9 lb hE l2 ln lh ha hle hX8
 go_enter Try.func37,Try.ntmps37
 go_upto_region 1 with fail
 rw [<-HW0.out]
 go_upto_region 4 with (go_at_call 47;refine HE.out.mono ?_;rintro e we ⟨v',rfl,hs,hb⟩;obtain⟨AB,db,hv⟩:=Bs.formL hs;rw [show bytesOf (.ok b:Except Int (List UInt8))=b from rfl]at hv hs;subst hv;have HBB:=iH (BsS.rd hs);have HBE:=iH hb;clear hs hb)
 refine jc 14 [some 18,some 19,some 20,some 21,some 22,some 23,some 24,some 25,some 26,some 27,some 28,some 29,some 6,some 7] [[],[0],[0,1],[],[3],[],[],[3,4,5,6],[3,4,5,6,7],[0,1,2,3,4,5,6,7,8],[0,1,2,3,4,5,6,7,8,9],[0,1,2,3,4,5,6,7,8,9],[0,1,2,3,4,5,6,7,8,9,10,11],[0,1,2,3,4,5,6,7,8,9,10,11,12]]
  (fun _ _ w1=>Below we.heap.size we w1) (fun w1 w2=>Below w1.heap.size w1 w2)
  [fun v _=>v 0=.pointer (some ⟨w.heap.size,0,none⟩),
   fun v _=>v 1=.pointer (some ⟨w.heap.size,1,none⟩),
   fun v _=>v 2=.slice A2 n2 d2,
   fun v _=>v 3=.pointer (some ⟨w.heap.size,3,none⟩),
   fun v _=>v 4=.slice A3 n3 d3,
   fun v _=>v 5=.slice AH nh dh,
   fun v _=>v 6=.slice AB b.length db,
   fun v w1=>∃g,v 7=.slice (some ⟨g,0,none⟩) 3 3/\w1.heap[g]?=some (.cells #[.slice A3 n3 d3,.slice AH nh dh,.slice AB b.length db] 23 (0,0)),
   fun v w1=>∃a c,v 8=.slice a (X8).length c/\Bs w1 w1.heap.size (.slice a (X8).length c) (X8),
   fun v w1=>∃a c,v 9=.tuple #[.slice a (C9).length c,.int .i64 0]/\BsS w1 (New w w1) (.slice a (C9).length c) (C9),
   fun v w1=>∃a c,v 10=.slice a (C9).length c/\BsS w1 (New w w1) (.slice a (C9).length c) (C9),
   fun v _=>v 11=.int .i64 0,
   fun v w1=>∃a c,v 12=.slice a (C9).length c/\BsS w1 (New w w1) (.slice a (C9).length c) (C9),
   fun v _=>v 13=.int .i64 0]
  (by kernel_rfl) (by kernel_rfl) (fun _=>iB.drew) ?st ?steps ?tail
 case st=>
  exact(.cons (fun _ _ _ _ _ _ h=>h) (.cons (fun _ _ _ _ _ _ h=>h) (.cons (fun _ _ _ _ _ _ h=>h) (.cons (fun _ _ _ _ _ _ h=>h) (.cons (fun _ _ _ _ _ _ h=>h) (.cons (fun _ _ _ _ _ _ h=>h) (.cons (fun _ _ _ _ _ _ h=>h) (.cons (fun _ _ _ _ _ hr ⟨g,e,h⟩=>⟨g,e,(hr.block g (iG h)).trans h⟩) (.cons (fun _ _ _ _ _ hr ⟨a,c,e,h⟩=>⟨a,c,e,h.lift hr⟩) (.cons (fun _ _ _ _ _ hr ⟨a,c,e,h⟩=>⟨a,c,e,BsS.keep h fun g hg hl=>⟨hr.block g hl,hg.1,iZ hl hr.size⟩⟩) (.cons (fun _ _ _ _ _ hr ⟨a,c,e,h⟩=>⟨a,c,e,BsS.keep h fun g hg hl=>⟨hr.block g hl,hg.1,iZ hl hr.size⟩⟩) (.cons (fun _ _ _ _ _ _ h=>h) (.cons (fun _ _ _ _ _ hr ⟨a,c,e,h⟩=>⟨a,c,e,BsS.keep h fun g hg hl=>⟨hr.block g hl,hg.1,iZ hl hr.size⟩⟩) (.cons (fun _ _ _ _ _ _ h=>h) .nil))))))))))))))
 case steps=>
  simp only [iI,iK]
  refine(.cons ?_ (.cons ?_ (.cons ?_ (.cons ?_ (.cons ?_ (.cons ?_ (.cons ?_ (.cons ?_ (.cons ?_ (.cons ?_ (.cons ?_ (.cons ?_ (.cons ?_ (.cons ?_ .nil))))))))))))))
  all_goals(intro L v w1 hJ hL hA hF K hK;simp only [ja,Act.put,iM,Nat.reduceAdd,iS,iC,iD]at hK |-)
  ·go_simp
   refine hK _ _ hJ iB ?_
   first|exact rfl|exact j4 _
  ·have e0:v 0=.pointer (some ⟨w.heap.size,0,none⟩):=hF 0 (hA 0 (by simp))
   simp only [e0]at hK
   go_simp
   refine hK _ _ hJ iB ?_
   first|exact rfl|exact j4 _
  ·have e1:v 1=.pointer (some ⟨w.heap.size,1,none⟩):=hF 1 (hA 1 (by simp))
   obtain⟨c0,c1,c2,c3⟩:=CS.out _ (HBE.out.trans (hJ.mono HBE.out.size))
   simp only [e1]at hK
   go_simp
   refine hK _ _ hJ iB ?_
   first|exact rfl|exact j4 _
  ·go_simp
   refine hK _ _ hJ iB ?_
   first|exact rfl|exact j4 _
  ·have e3:v 3=.pointer (some ⟨w.heap.size,3,none⟩):=hF 3 (hA 3 (by simp))
   obtain⟨c0,c1,c2,c3⟩:=CS.out _ (HBE.out.trans (hJ.mono HBE.out.size))
   simp only [e3]at hK
   go_simp
   refine hK _ _ hJ iB ?_
   first|exact rfl|exact j4 _
  ·go_simp
   refine hK _ _ hJ iB ?_
   first|exact rfl|exact j4 _
  ·go_simp
   refine hK _ _ hJ iB ?_
   first|exact rfl|exact j4 _
  ·have e4:v 4=.slice A3 n3 d3:=hF 4 (hA 4 (by simp))
   have e5:v 5=.slice AH nh dh:=hF 5 (hA 5 (by simp))
   have e6:v 6=.slice AB b.length db:=hF 6 (hA 6 (by simp))
   simp only [e4,e5,e6]at hK
   go_simp
   have hz:=(Below.refl w1.heap.size w1).alloc iL (.cells #[.slice A3 n3 d3,.slice AH nh dh,.slice AB b.length db] 23)
   exact hK _ _ (hJ.trans (hz.mono hJ.size)) hz ⟨_,rfl,iN⟩
  ·obtain⟨g7,e7,h7⟩:∃g,v 7=.slice (some ⟨g,0,none⟩) 3 3/\w1.heap[g]?=some (.cells #[.slice A3 n3 d3,.slice AH nh dh,.slice AB b.length db] 23 (0,0)):=hF 7 (hA 7 (by simp))
   simp only [e7]at hK
   go_simp
   refine(HCAT.out AB db g7 w1 h7 (H3.out.lift (HBE.out.trans (hJ.mono HBE.out.size))) (HH.out.lift (HBE.out.trans (hJ.mono HBE.out.size))) (HBB.out.lift hJ)).mono ?_
   rintro e w5 ⟨v5,rfl,hx,hb⟩
   obtain⟨A5,C5,hv5⟩:=Bs.formL hx
   subst hv5
   exact hK _ _ (hJ.trans (hb.mono hJ.size)) hb ⟨_,_,rfl,hx⟩
  ·have e2:v 2=.slice A2 n2 d2:=hF 2 (hA 2 (by simp))
   simp only [e2]at hK
   obtain⟨a8,c8,e8,h8⟩:∃a c,v 8=.slice a (X8).length c/\Bs w1 w1.heap.size (.slice a (X8).length c) (X8):=hF 8 (hA 8 (by simp))
   simp only [e8]at hK
   go_simp
   refine(HCK.out _ _ w1 (H2.out.lift (HBE.out.trans (hJ.mono HBE.out.size))) h8).mono ?_
   rintro e w5 ⟨v5,rfl,ho,hb⟩
   have hx:BsS w5 (New w w5) v5 (C9):=(ho.bs (by have:=LC.out;omega)).keep fun g hg _=>⟨rfl,Nat.le_trans (Nat.le_trans HB.out.size (Nat.le_trans HBE.out.size hJ.size)) hg.1,hg.2⟩
   obtain⟨A5,C5,hv5⟩:=Bs.formL hx
   subst hv5
   exact hK _ _ (hJ.trans (hb.mono hJ.size)) hb ⟨_,_,rfl,hx⟩
  ·obtain⟨a9,c9,e9,h9⟩:∃a c,v 9=.tuple #[.slice a (C9).length c,.int .i64 0]/\BsS w1 (New w w1) (.slice a (C9).length c) (C9):=hF 9 (hA 9 (by simp))
   simp only [e9]at hK
   go_simp
   exact hK _ _ hJ iB ⟨_,_,rfl,h9⟩
  ·obtain⟨a9,c9,e9,h9⟩:∃a c,v 9=.tuple #[.slice a (C9).length c,.int .i64 0]/\BsS w1 (New w w1) (.slice a (C9).length c) (C9):=hF 9 (hA 9 (by simp))
   simp only [e9]at hK
   go_simp
   exact hK _ _ hJ iB rfl
  ·obtain⟨a10,c10,e10,h10⟩:∃a c,v 10=.slice a (C9).length c/\BsS w1 (New w w1) (.slice a (C9).length c) (C9):=hF 10 (hA 10 (by simp))
   simp only [e10]at hK
   go_simp
   exact hK _ _ hJ iB ⟨_,_,rfl,h10⟩
  ·have e11:v 11=.int .i64 0:=hF 11 (hA 11 (by simp))
   simp only [e11]at hK
   go_simp
   refine hK _ _ hJ iB ?_
   first|exact rfl|exact j4 _
 case tail=>
  intro v w1 hJ hF
  have e0:v 0=.pointer (some ⟨w.heap.size,0,none⟩):=hF 0 (by simp)
  have e1:v 1=.pointer (some ⟨w.heap.size,1,none⟩):=hF 1 (by simp)
  have e2:v 2=.slice A2 n2 d2:=hF 2 (by simp)
  have e3:v 3=.pointer (some ⟨w.heap.size,3,none⟩):=hF 3 (by simp)
  have e4:v 4=.slice A3 n3 d3:=hF 4 (by simp)
  have e5:v 5=.slice AH nh dh:=hF 5 (by simp)
  have e6:v 6=.slice AB b.length db:=hF 6 (by simp)
  have e11:v 11=.int .i64 0:=hF 11 (by simp)
  have e13:v 13=.int .i64 0:=hF 13 (by simp)
  obtain⟨a12,c12,e12,h12⟩:∃a c,v 12=.slice a (C9).length c/\BsS w1 (New w w1) (.slice a (C9).length c) (C9):=hF 12 (by simp)
  simp only [iE,iJ,ja,Act.put,iM,Nat.reduceAdd,iS,iC,iD]
  simp only [e12,e13]
  clear e0 e1 e2 e3 e4 e5 e6 e11 e13
  have HS:=iH h12
  have HBW:=iH (HB.out.trans ((HBE.out.trans (hJ.mono HBE.out.size)).mono HB.out.size))
  clear h12 hJ hF
  go_wp2_with fail
  go_ret2
  exact⟨_,_,rfl,HS.out,HBW.out⟩
theorem Zj(ua ub uc vh o:Value)(un:Int)(k2 N head:List UInt8)(L:Ns)(l2:k2.length=16)(ln:N.length=16)(lh:head.length<=100)(ha:L.all<=10)(hle:L.enc.length<=10000)(x:Int)(hx:(x==0)=false)(hE:xr L=.error x)(w:World)(hb:Bs w w.heap.size ub k2)(hc:Bs w w.heap.size uc N)(hh:Bs w w.heap.size vh head)(hO:NsS w (·<w.heap.size) o L):
 Calls Try.prog 37 #[.agg #[ua,ub,.int .i64 un,uc],vh,o] w fun e w'=>e=.returned (.tuple #[.slice none 0 0,.int .i64 x])/\Below w.heap.size w w':=by
 obtain⟨A2,n2,d2,rfl⟩:=hb.form
 obtain⟨A3,n3,d3,rfl⟩:=hc.form
 obtain⟨AH,nh,dh,rfl⟩:=hh.form
 obtain⟨w0,hw0⟩:∃w0,w0=w.alloc (.cells #[ua,.slice A2 n2 d2,.int .i64 un,.slice A3 n3 d3] 56):=⟨_,rfl⟩
 have hB0:Below w.heap.size w w0:=by rw [hw0];exact iA
 have hh0:w0.heap[w.heap.size]?=some (.cells #[ua,.slice A2 n2 d2,.int .i64 un,.slice A3 n3 d3] 56 (0,0)):=by rw [hw0];exact iN
 have hlt0:=(iG hh0)
 have CS:Hid (∀W,Below w0.heap.size w0 W->W.cell? ⟨w.heap.size,0,none⟩=some ua/\W.cell? ⟨w.heap.size,1,none⟩=some (.slice A2 n2 d2)/\W.cell? ⟨w.heap.size,2,none⟩=some (.int .i64 un)/\W.cell? ⟨w.heap.size,3,none⟩=some (.slice A3 n3 d3)):=iH fun W h=>(by obtain⟨a,b,c,d,_⟩:=jz ((h.block w.heap.size hlt0).trans hh0);exact⟨a,b,c,d⟩)
 have HE:=zd L o w0 (hO.keep fun g hg hl=>⟨hB0.block g hl,iZ hg hB0.size⟩) (by omega) (by omega)
 rw [hE]at HE
 have HE:=iH HE
 have HB:=iH hB0;have HW0:=iH hw0
 have t1:(x != 0)=true:=by simpa using hx
 clear hb hc hh hO hB0 hw0 hh0 hlt0 hE l2 ln lh ha hle CS hx
 go_enter Try.func37,Try.ntmps37
 go_upto_region 1 with fail
 rw [<-HW0.out]
 go_wp2_with(go_at_call 47;refine HE.out.mono ?_;rintro e we ⟨v',rfl,hs,hb⟩;rw [show jM (.error x:Except Int (List UInt8))=x from rfl];have HBE:=iH hb;clear hs hb)
 go_ret2
 exact⟨rfl,HB.out.trans (HBE.out.mono HB.out.size)⟩
def qb(k2 N head:List UInt8)(L:Ns):Except Int (List UInt8):=
 match xr L with
 |.error e=>.error e
 |.ok b=>xr (L.app (.cons 142 (ki k2 N head b) .nil .nil))
def Kv(r:Except Int (List UInt8))(base:Nat)(o:Value)(w:World)(e:Ending)(w':World):Prop:=
 ∃v,e=.returned (.tuple #[v,.int .i64 (jM r)])/\BsS w' (New w w') v (bytesOf r)/\Below base w w'/\w.grownBy w' o.ownBlock
theorem jT{a b c:World}{r:Option Nat}(h:a.grownBy b r)(k:b.grownBy c r):a.grownBy c r:=
 ⟨k.os.trans h.os,k.tape.trans h.tape,k.output.trans h.output,Nat.le_trans h.size k.size,fun i hi hn=>(k.block i (iZ hi h.size) hn).trans (h.block i hi hn)⟩
theorem Ns.all_snoc(L:Ns)(t:Int)(v:List UInt8):(L.app (.cons t v .nil .nil)).all=L.all+1:=by
 induction L with
 |nil=>rfl
 |cons a b k r _ ih=>simp only [Ns.app,Ns.all,ih];omega
theorem qj(L M:Ns):(L.app M).enc=L.enc++M.enc:=by
 induction L with
 |nil=>rfl
 |cons a b k r _ ih=>simp only [Ns.app,Ns.enc,ih,List.append_assoc]
theorem j18:jW 142:=⟨by decide,by decide⟩
theorem j0f(v:List UInt8)(h:v.length<=8):(Ns.cons 142 v .nil .nil).enc.length<=100:=by
 have h1:jV 142=false:=by decide
 simp only [Ns.enc,h1]
 have h2:(qq v.length).length=1:=by unfold qq;rw [iT (by omega)]<;>rfl
 have h3:(ke 142).length=1:=by decide
 simp [h2,h3]
 omega
theorem K1(ua ub uc vh o:Value)(un:Int)(k2 N head:List UInt8)(L:Ns)(l2:k2.length=16)(ln:N.length=16)(lh:head.length<=100)(ha:L.all<=10)(hle:L.enc.length<=10000)(base:Nat)(w:World)(hb:Bs w w.heap.size ub k2)(hc:Bs w w.heap.size uc N)(hh:Bs w w.heap.size vh head)(hO:OwnN w base o L)(hbase:base<=w.heap.size):
 Calls Try.prog 30 #[.agg #[ua,ub,.int .i64 un,uc],vh,o] w (Kv (qb k2 N head L) base o w):=by
 have hlen:L.len<=10:=Nat.le_trans (Ns.len_all L) ha
 have hN:=(hO.nss (by omega)).keep (w':=w) (S':=(·<w.heap.size)) fun g hg _=>⟨rfl,hg.2⟩
 obtain⟨A2,n2,d2,rfl⟩:=hb.form
 obtain⟨A3,n3,d3,rfl⟩:=hc.form
 obtain⟨oA,oc,rfl⟩:=hO.form
 obtain⟨w0,hw0⟩:∃w0,w0=w.alloc (.cells #[ua,.slice A2 n2 d2,.int .i64 un,.slice A3 n3 d3] 56):=⟨_,rfl⟩
 have hB0:Below w.heap.size w w0:=by rw [hw0];exact iA
 have hh0:w0.heap[w.heap.size]?=some (.cells #[ua,.slice A2 n2 d2,.int .i64 un,.slice A3 n3 d3] 56 (0,0)):=by rw [hw0];exact iN
 have hlt0:=(iG hh0)
 have CS:Hid (∀W,Below w0.heap.size w0 W->W.cell? ⟨w.heap.size,0,none⟩=some ua/\W.cell? ⟨w.heap.size,1,none⟩=some (.slice A2 n2 d2)/\W.cell? ⟨w.heap.size,2,none⟩=some (.int .i64 un)/\W.cell? ⟨w.heap.size,3,none⟩=some (.slice A3 n3 d3)):=iH fun W h=>(by obtain⟨a,b,c,d,_⟩:=jz ((h.block w.heap.size hlt0).trans hh0);exact⟨a,b,c,d⟩)
 have hN0:=hN.keep (w':=w0) (S':=(·<w0.heap.size)) fun g hg hl=>⟨hB0.block g hl,iZ hg hB0.size⟩
 have HO:=iH (hO.below hB0)
 have HB:=iH hB0;have HW0:=iH hw0;have HBASE:=iH hbase;have HLEN:=iH hlen
 have HAL:=iH ha;have HLE:=iH hle
 have b0:=hb.lift hB0;have c0:=hc.lift hB0;have h0:=hh.lift hB0
 rcases hE:xr L with x|b
 ·have hx:(x==0)=false:=Jb hE
  have HC:=iH (Zj ua _ _ vh _ un k2 N head L l2 ln lh ha hle x hx hE w0 b0 c0 h0 hN0)
  have R:Hid (qb k2 N head L=.error x):=iH (by unfold qb;rw [hE])
  have t1:(x != 0)=true:=by simpa using hx
  clear hb hc hh hO hB0 hw0 hh0 hlt0 hE l2 ln lh ha hle hN hN0 hbase hlen hx b0 c0 h0
  go_enter Try.func30,Try.ntmps30
  go_upto_region 1 with fail
  rw [<-HW0.out]
  obtain⟨c0,c1,c2,c3⟩:=CS.out w0 iB
  go_wp2_with(go_at_call 37;refine HC.out.mono ?_;rintro e w1 ⟨rfl,hb⟩;have HB1:=iH (HB.out.trans (hb.mono HB.out.size));clear hb c0 c1 c2 c3)
  go_ret2
  rw [R.out]
  exact⟨_,rfl,BsS.nil0 _ _,HB1.out.mono HBASE.out,jh HB1.out _⟩
 ·have HC:=Jh ua _ _ vh _ un k2 N head L l2 ln lh ha hle b hE w0 b0 c0 h0 hN0
  have LC:(ki k2 N head b).length<=8:=by unfold ki;rw [List.length_take];omega
  obtain⟨C9,hC9⟩:∃C,ki k2 N head b=C:=⟨_,rfl⟩
  rw [hC9]at HC LC
  have R:Hid (qb k2 N head L=xr (L.app (.cons 142 C9 .nil .nil))):=iH (by unfold qb;rw [hE,<-hC9])
  have HC:=iH HC
  have ELN:Hid ((L.app (.cons 142 C9 .nil .nil)).enc.length<=1000000000000):=iH (by rw [qj,List.length_append];have:=j0f C9 LC;omega)
  have EAL:Hid ((L.app (.cons 142 C9 .nil .nil)).all<=100000000000):=iH (by rw [Ns.all_snoc];omega)
  have ELE:Hid ((L.app (.cons 142 C9 .nil .nil)).len<=2513169434843):=iH (by rw [Ns.len_snoc];omega)
  clear hb hc hh hO hB0 hw0 hh0 hlt0 hE l2 ln lh ha hle hN hN0 hbase hlen b0 c0 h0 hC9 LC
  go_enter Try.func30,Try.ntmps30
  go_upto_region 1 with fail
  rw [<-HW0.out]
  obtain⟨c0,c1,c2,c3⟩:=CS.out w0 iB
  go_wp2_with(first
   |(go_at_call 47;have M2:=HO2;refine(zd (L.app (.cons 142 C9 .nil .nil)) o2 w2 HN2.out EAL.out ELN.out).mono ?_;rintro e w3 ⟨v3,rfl,hs,hb⟩;have HS3:=iH (BsS.keep hs (w':=w3) (S':=New w w3) fun g hg _=>⟨rfl,Nat.le_trans HG2.out.size hg.1,hg.2⟩);have HB3:=iH (HB2.out.trans (hb.mono (Nat.le_trans HBASE.out HG2.out.size)));have HG3:=iH (jT HG2.out (jh hb (Value.slice oA L.len oc).ownBlock));clear hs hb)
   |(at_builtin;(with_reducible refine jR rfl (.tmp 20) (.tmp 23) rfl base (.slice oA L.len oc) L rfl HO1.out 142 C9 .nil (.slice cA C9.length cc) (.slice none 0 0) _ w1.heap.size rfl rfl j18 HC1.out (NsS.nil0 _ _) (by have:=HLEN.out;omega) HBS1.out ?_);intro o2 w2 hg2;have HO2:=iH hg2.1;have HN2:=iH ((hg2.1.nss ELE.out).keep (w':=w2) (S':=(·<w2.heap.size)) fun g hg _=>⟨rfl,hg.2⟩);have HG2:Hid (w.grownBy w2 (Value.slice oA L.len oc).ownBlock):=iH (jT (jh HB1.out _) hg2.2.2);have HB2:Hid (Below base w w2):=iH ((HB1.out.mono HBASE.out).trans hg2.2.1);clear hg2)
   |(go_at_call 37;refine HC.out.mono ?_;rintro e w1 ⟨cA,cc,rfl,hs,hb⟩;have HO1:=iH (HO.out.below hb);have HB1:=iH (HB.out.trans (hb.mono HB.out.size));have HC1:=iH (zP HO.out hs hb (Nat.le_trans HBASE.out HB.out.size));have HBS1:=iH (Nat.le_trans HBASE.out HB1.out.size);clear hb hs c0 c1 c2 c3))
  go_ret2
  rw [R.out]
  exact⟨_,rfl,HS3.out,HB3.out,HG3.out⟩
end Go.Proofs.Ytadndhgebgjlaaa
