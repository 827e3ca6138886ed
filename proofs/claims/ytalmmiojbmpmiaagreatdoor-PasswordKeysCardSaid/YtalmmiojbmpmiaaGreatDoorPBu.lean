/- Layer 21: PasswordKeys -/
import Derived.Test.YtalmmiojbmpmiaaGreatDoorPBt
import Derived.Test.YtalmmiojbmpmiaaGreatDoorPBr
set_option linter.all false
set_option maxRecDepth 100000
set_option maxHeartbeats 8000000
namespace Go.Proofs.YtalmmiojbmpmiaaGreatDoor
open Go.RowKit Go.Deep
theorem Die.setPw{B p n X n0 c0:Nat}{w:World}{k0 k1:Int}{a0:Option Addr}{u1:Value}{t:TypeId}(h:Die B w p n)(hr:w.heap[X]?=some (.cells #[.int .i64 k0,.slice a0 n0 c0] t (0,0)))(hp:X≠p)(hk:x5 k1):
 Die B ((w.setCell ⟨X,0,none⟩ (.int .i64 k1)).setCell ⟨X,1,none⟩ u1) p n:=by
 obtain⟨v,a,h1,h2,h3,h4,h5⟩:=h
 refine⟨v,a,h1,(setOther (Ne.symm hp)).trans ((setOther (Ne.symm hp)).trans h2),?_,h4,by simpa using h5⟩
 obtain⟨a',c,e,e1,e2,e3,e4⟩:=h3
 refine⟨a',c,e,e1,e2,e3,fun q0=> ?_⟩
 obtain⟨b,off,ea,hb,hl,hrr⟩:=e4 q0
 refine⟨b,off,ea,hb,by simpa using hl,fun j hj=> ?_⟩
 obtain⟨z,hz,hc⟩:=hrr j hj
 by_cases hbX:b=X
 ·subst hbX
  rw [cell_of_row _ _ _ _ _ _ hr]at hc
  have hof:off+j=0:=by
   rcases ho:off+j with _|_|k
   ·rfl
   ·rw [ho]at hc;simp at hc
   ·rw [ho]at hc;simp at hc
  refine⟨k1,hk,?_⟩
  rw [cell_of_row _ _ _ _ _ _ (Jw hr),hof]
  rfl
 ·refine⟨z,hz,?_⟩
  rw [<-hc]
  have hh:((w.setCell ⟨X,0,none⟩ (.int .i64 k1)).setCell ⟨X,1,none⟩ u1).heap[b]?=w.heap[b]? :=(setOther hbX).trans (setOther hbX)
  simp [World.cell?,hh]
def V2(q:Nat)(w:World):Nat->Prop:=fun b=>b<w.heap.size/\b≠q/\b≠q+1
structure PkW (w wx:World) (n:Nat) (kd:Int) (A:Option Addr) (c:Nat) (sec:List UInt8) (va:Value) (m:List UInt8):Prop where
 die:Die (w.heap.size+2) wx (w.heap.size+1) n
 bel:Below w.heap.size w wx
 row:wx.heap[w.heap.size]?=some (.cells #[.int .i64 kd,.slice A sec.length c] 24 (0,0))
 sec:BsS wx (V2 w.heap.size wx) (.slice A sec.length c) sec
 non:BsS wx (V2 w.heap.size wx) va m
section
variable {w wx wy:World} {n:Nat} {kd:Int} {A:Option Addr} {c:Nat} {sec:List UInt8} {va:Value} {m:List UInt8}
theorem BsS.diceQ{v:Value}{l:List UInt8}{q n:Nat}(h:BsS wx (V2 q wx) v l)(hd:DiePost (q+2) wx (q+1) n wy):BsS wy (V2 q wy) v l:=
 h.keep fun b hs hl=>⟨hd.blk hl hs.2.2,iZ hl hd.2.size,hs.2⟩
theorem BsS.newQ{w0:World}{v:Value}{l:List UInt8}{q:Nat}(h:BsS wx (New w0 wx) v l)(hq:q+2<=w0.heap.size):BsS wx (V2 q wx) v l:=
 h.keep fun b hs hl=>⟨rfl,hl,by have:=hs.1;omega,by have:=hs.1;omega⟩
theorem PkW.dice(h:PkW w wx n kd A c sec va m)(hd:DiePost (w.heap.size+2) wx (w.heap.size+1) n wy):PkW w wy n kd A c sec va m:=
 ⟨hd.1,h.bel.grown hd.2 h.bel.size (fun k e=>by injection e with e;omega),(hd.blk (by have:=h.die.le;omega) (by omega)).trans h.row,h.sec.diceQ hd,h.non.diceQ hd⟩
theorem PkW.set(h:PkW w wx n kd A c sec va m){k1:Int}{A1:Option Addr}{c1:Nat}{s1:List UInt8}(hk:x5 k1)(hs:BsS wx (V2 w.heap.size wx) (.slice A1 s1.length c1) s1):
 PkW w ((wx.setCell ⟨w.heap.size,0,none⟩ (.int .i64 k1)).setCell ⟨w.heap.size,1,none⟩ (.slice A1 s1.length c1)) n k1 A1 c1 s1 va m:=by
 have key:∀ {v:Value} {l:List UInt8},BsS wx (V2 w.heap.size wx) v l->BsS ((wx.setCell ⟨w.heap.size,0,none⟩ (.int .i64 k1)).setCell ⟨w.heap.size,1,none⟩ (.slice A1 s1.length c1)) (V2 w.heap.size ((wx.setCell ⟨w.heap.size,0,none⟩ (.int .i64 k1)).setCell ⟨w.heap.size,1,none⟩ (.slice A1 s1.length c1))) v l:=fun h=>
  h.keep fun b hs hl=>⟨(setOther hs.2.1).trans (setOther hs.2.1),by simpa using hl,hs.2⟩
 exact⟨h.die.setPw h.row (by omega) hk,(h.bel.setCell iL _).setCell iL _,Jw h.row,key hs,key h.non⟩
structure PkV (w wx:World) (kd:Int) (A:Option Addr) (c:Nat) (sec:List UInt8) (L:List (Value×List UInt8)):Prop where
 bel:Below w.heap.size w wx
 row:wx.heap[w.heap.size]?=some (.cells #[.int .i64 kd,.slice A sec.length c] 24 (0,0))
 sec:Bs wx wx.heap.size (.slice A sec.length c) sec
 all:∀x∈L,Bs wx wx.heap.size x.1 x.2
theorem PkW.vals(h:PkW w wx n kd A c sec va m):PkV w wx kd A c sec [(va,m)]:=
 ⟨h.bel,h.row,BsS.keep h.sec fun b hs _=>⟨rfl,hs.1⟩,fun x hx=>by rcases List.mem_singleton.1 hx with rfl;exact BsS.keep h.non fun b hs _=>⟨rfl,hs.1⟩⟩
variable {L:List (Value×List UInt8)}
theorem PkV.on(h:PkV w wx kd A c sec L)(hb:Below wx.heap.size wx wy):PkV w wy kd A c sec L:=
 ⟨h.bel.trans (hb.mono h.bel.size),(hb.block _ (iG h.row)).trans h.row,h.sec.lift hb,fun x hx=>(h.all x hx).lift hb⟩
theorem PkV.add(h:PkV w wx kd A c sec L){w0:World}{v:Value}{l:List UInt8}(hv:BsS wx (New w0 wx) v l):PkV w wx kd A c sec ((v,l) :: L):=
 ⟨h.bel,h.row,h.sec,fun x hx=>by
  rcases List.mem_cons.1 hx with rfl|hx
  ·exact BsS.keep hv fun g hs _=>⟨rfl,hs.2⟩
  ·exact h.all x hx⟩
theorem PkV.at(h:PkV w wx kd A c sec L)(i:Nat){v:Value}{l:List UInt8}(hi:L[i]?=some (v,l)):Bs wx wx.heap.size v l:=h.all (v,l) (List.mem_of_getElem? hi)
end
theorem xY(kd:Int)(vs:Value)(sec:List UInt8)(_ns:sec.length<=140737488351232)(vn:Value)(m:List UInt8)(_nm:m.length<=140737488351232)(v:Value)(n:Nat)(w:World)(hK:KR w/\KD w)(hs:Bs w w.heap.size vs sec)(hn:Bs w w.heap.size vn m)(hv:IntsS w (·<w.heap.size) v n):
 Calls Tryz.prog 3 #[.agg #[.int .i64 kd,vs],vn,v] w fun e w'=>e=.returned (.bool true)/\Below w.heap.size w w':=by
 obtain⟨A,c,rfl⟩:=Bs.formL hs
 obtain⟨B,d,rfl⟩:=Bs.formL hn
 obtain⟨va,vc,rfl⟩:=hv.form
 obtain⟨w0,hw0⟩:∃w0,w0=w.alloc (.cells #[.int .i64 kd,.slice A sec.length c] 24):=⟨_,rfl⟩
 have hb0:Below w.heap.size w w0:=by rw [hw0];exact jq _ _
 have hz0:w0.heap.size=w.heap.size+1:=by rw [hw0];simp
 have hr0:w0.heap[w.heap.size]?=some (.cells #[.int .i64 kd,.slice A sec.length c] 24 (0,0)):=by rw [hw0];exact iN
 have hv0:IntsS w0 (·<w0.heap.size) (.slice va n vc) n:=hv.keep fun b hs hl=>⟨hb0.block b hl,iZ hl hb0.size⟩
 have HL:=iH (ZI _ _ n w0 hv0)
 have HR:=iH (UJ _ n w0 hv0)
 have HW0:=iH hw0;have HB0:=iH hb0;have HK:=iH hK;have HS:=iH hs;have HN:=iH hn;have R0:=iH hr0
 clear hw0 hK hs hn hv hv0 hr0 hb0
 by_cases hlt:(n:Int)<=400
 ·have hn1:decide ((n:Int)<=400)=true:=decide_eq_true hlt
  rw [hn1]at HL
  clear hlt hn1
  go_enter Tryz.func3,Tryz.ntmps3
  go_upto_region 1 with fail
  rw [<-HW0.out]
  go_upto_if 28 with (first
   |(go_at_call 13;refine(ZX _ _ n 2 w1 M1.out.die (by decide) (by decide)).mono ?_;rintro e w2 ⟨b2,rfl,hd⟩;have M2:=iH (M1.out.dice hd);clear hd)
   |(go_at_call 10;refine HL.out.mono ?_;rintro e w' ⟨rfl,hw'⟩;rw [hw'];clear hw' w')
   |(go_at_call 12;refine HR.out.mono ?_;rintro e w1 ⟨rfl,hd,hb⟩;rw [hz0]at hd;rw [hz0];have M1:Hid (PkW w w1 n kd A c sec (.slice B m.length d) m):=iH ⟨hd,HB0.out.trans (hb.mono HB0.out.size),(hb.block _ (by omega)).trans R0.out,BsS.keep HS.out fun b hg _=>⟨(hb.block b (iZ hg HB0.out.size)).trans (HB0.out.block b hg),iZ (iZ hg HB0.out.size) hb.size,by omega,by omega⟩,BsS.keep HN.out fun b hg _=>⟨(hb.block b (iZ hg HB0.out.size)).trans (HB0.out.block b hg),iZ (iZ hg HB0.out.size) hb.size,by omega,by omega⟩⟩;clear hd hb))
  go_cut [] from 12 to 16 (fun wx=>∃kd A c sec,PkW w wx n kd A c sec (.slice B m.length d) m)
  case first=>
   cases b2
   ·go_wp2_with fail
    go_meet
    exact⟨_,_,_,_,M2.out⟩
   ·go_wp2_with(go_at_call 14;refine(Zt _ _ n w2 M2.out.die).mono ?_;rintro e w3 ⟨kd3,sec3,A3,c3,rfl,hs3,hk3,hl3,hd⟩;have M3:=iH (M2.out.dice hd);have S3:=iH (hs3.newQ M2.out.die.le);obtain⟨c0,c1,cf⟩:=two M3.out.row;have cf0:=cf 0;have cf1:=cf 1;clear cf hs3 hd hl3)
    go_meet
    exact⟨kd3,A3,c3,sec3,M3.out.set ⟨by omega,by omega⟩ S3.out⟩
  case rest=>
  obtain⟨kd,A,c,sec,hM⟩:=hcut
  obtain⟨w4,rfl⟩:∃w4:World,w4=wc:=⟨_,rfl⟩
  have M4:=iH hM
  clear hM M1 M2 HL HR HW0 HB0 R0 HS HN
  go_upto_if 33 with (go_at_call 13;refine(ZX _ _ n 2 w4 M4.out.die (by decide) (by decide)).mono ?_;rintro e w5 ⟨b5,rfl,hd⟩;have M5:=iH (M4.out.dice hd);clear hd)
  go_cut [8] from 20 to 24 (fun y wx=>∃B d m,y=.slice B (List.length m) d/\PkW w wx n kd A c sec y m)
  case first=>
   cases b5
   ·go_wp2_with fail
    go_meet
    exact⟨_,_,_,rfl,M5.out⟩
   ·go_wp2_with(go_at_call 15;refine(Vt _ _ n w5 M5.out.die).mono ?_;rintro e w6 ⟨v6,l6,rfl,hs6,hl6,hd⟩;obtain⟨A6,c6,hp⟩:=Bs.formL hs6;subst hp;have M6:=iH (M5.out.dice hd);have S6:=iH (hs6.newQ M5.out.die.le);clear hs6 hl6 hd)
    go_meet
    exact⟨_,_,l6,rfl,M6.out.die,M6.out.bel,M6.out.row,M6.out.sec,S6.out⟩
  case rest=>
  obtain⟨B,d,m,rfl,hM⟩:=hcut
  obtain⟨w7,rfl⟩:∃w7:World,w7=wc:=⟨_,rfl⟩
  have P7:=iH hM.vals
  clear hM M4 M5
  obtain⟨⟨e1,l1⟩,hr1⟩:∃q,pkW kd sec=q:=⟨_,rfl⟩
  obtain⟨⟨e2,l2⟩,hr2⟩:∃q,kP kd sec m=q:=⟨_,rfl⟩
  obtain⟨⟨e3,l3⟩,hr3⟩:∃q,Z5 kd sec m=q:=⟨_,rfl⟩
  have R1:=iH hr1;have R2:=iH hr2;have R3:=iH hr3
  clear hr1 hr2 hr3
  obtain⟨c0,c1,_⟩:=two P7.out.row
  go_upto_region 10 with (go_at_call 16;refine(kY kd sec A c w7 (HK.out.2.below P7.out.bel HK.out.2.lt) P7.out.sec).mono ?_;rw [R1.out];rintro e w8 ⟨v8,rfl,hs8,hb⟩;have P8:=iH ((P7.out.on hb).add hs8);clear hs8 hb c0 c1;obtain⟨c0,c1,_⟩:=two P8.out.row)
  go_upto_region 11 with (go_at_call 17;refine(kH kd sec A c w8 (HK.out.1.below P8.out.bel HK.out.1.lt) P8.out.sec).mono ?_;rw [R1.out];rintro e w9 ⟨v9,rfl,hs9,hb⟩;have P9:=iH ((P8.out.on hb).add hs9);clear hs9 hb c0 c1;obtain⟨c0,c1,_⟩:=two P9.out.row)
  go_upto_region 12 with (go_at_call 18;refine(QF kd sec A c m B d w9 (HK.out.2.below P9.out.bel HK.out.2.lt) P9.out.sec (P9.out.at 2 rfl)).mono ?_;rw [R2.out];rintro e w10 ⟨v10,rfl,hs10,hb⟩;have P10:=iH ((P9.out.on hb).add hs10);clear hs10 hb c0 c1;obtain⟨c0,c1,_⟩:=two P10.out.row)
  go_upto_region 13 with (go_at_call 19;refine(Yg kd sec A c m B d w10 (HK.out.1.below P10.out.bel HK.out.1.lt) P10.out.sec (P10.out.at 3 rfl)).mono ?_;rw [R2.out];rintro e w11 ⟨v11,rfl,hs11,hb⟩;have P11:=iH ((P10.out.on hb).add hs11);clear hs11 hb c0 c1;obtain⟨c0,c1,_⟩:=two P11.out.row)
  go_upto_region 14 with (go_at_call 20;refine(XM kd sec A c m B d w11 (HK.out.2.below P11.out.bel HK.out.2.lt) P11.out.sec (P11.out.at 4 rfl)).mono ?_;rw [R3.out];rintro e w12 ⟨v12,rfl,hs12,hb⟩;have P12:=iH ((P11.out.on hb).add hs12);clear hs12 hb c0 c1;obtain⟨c0,c1,_⟩:=two P12.out.row)
  go_upto_region 15 with (go_at_call 21;refine(Qc kd sec A c m B d w12 (HK.out.1.below P12.out.bel HK.out.1.lt) P12.out.sec (P12.out.at 5 rfl)).mono ?_;rw [R3.out];rintro e w13 ⟨v13,rfl,hs13,hb⟩;have P13:=iH ((P12.out.on hb).add hs13);clear hs13 hb c0 c1)
  clear P7 P8 P9 P10 P11 P12
  go_wp2_with(first
   |(go_at_call 22;refine(kN _ _ l3 l3 _ _ w16 (P16.out.at 1 rfl) (P16.out.at 0 rfl)).mono ?_;rintro e w17 ⟨rfl,nd,hw⟩;rw [decide_eq_true (rfl:l3=l3)];have P17:=iH (P16.out.on (wy:=w17) (by rw [hw];exact jh iB nd));clear hw)
   |(go_at_call 22;refine(kN _ _ l2 l2 _ _ w15 (P15.out.at 3 rfl) (P15.out.at 2 rfl)).mono ?_;rintro e w16 ⟨rfl,nd,hw⟩;rw [decide_eq_true (rfl:l2=l2)];have P16:=iH (P15.out.on (wy:=w16) (by rw [hw];exact jh iB nd));clear hw)
   |(go_at_call 22;refine(kN _ _ l1 l1 _ _ w14 (P14.out.at 5 rfl) (P14.out.at 4 rfl)).mono ?_;rintro e w15 ⟨rfl,nd,hw⟩;rw [decide_eq_true (rfl:l1=l1)];have P15:=iH (P14.out.on (wy:=w15) (by rw [hw];exact jh iB nd));clear hw)
   |(go_at_call 11;refine(qx w13 (HK.out.2.below P13.out.bel HK.out.2.lt)).mono ?_;rintro e w14 ⟨rfl,hb⟩;have P14:=iH (P13.out.on hb);clear hb))
  go_ret
  exact⟨rfl,P17.out.bel⟩
 ·have hn1:decide ((n:Int)<=400)=false:=decide_eq_false hlt
  rw [hn1]at HL
  clear hlt hn1 HR HS HN
  go_enter Tryz.func3,Tryz.ntmps3
  go_upto_region 1 with fail
  rw [<-HW0.out]
  go_wp2_with(first
   |(go_at_call 10;refine HL.out.mono ?_;rintro e w' ⟨rfl,hw'⟩;rw [hw'];clear hw' w')
   |(go_at_call 11;refine(qx w0 (HK.out.2.below HB0.out HK.out.2.lt)).mono ?_;rintro e w1 ⟨rfl,hb⟩;have HBT:=iH (HB0.out.trans (hb.mono HB0.out.size));clear hb))
  go_ret
  exact⟨rfl,HBT.out⟩
end Go.Proofs.YtalmmiojbmpmiaaGreatDoor
