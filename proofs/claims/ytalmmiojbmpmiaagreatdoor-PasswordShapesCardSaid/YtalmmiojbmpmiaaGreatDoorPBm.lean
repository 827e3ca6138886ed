/- Layer 21, plain: the group's numbers that a password connection uses. No program is named here; Layer 21: keys of passwords, nonces, generators, on both side... -/
import Derived.Test.YtalmmiojbmpmiaaGreatDoorPBk
import Derived.Test.YtalmmiojbmpmiaaGreatDoorPBl
import Derived.Test.YtalmmiojbmpmiaaGreatDoorPBi
set_option linter.all false
set_option maxRecDepth 100000
set_option maxHeartbeats 4000000
namespace Go.Proofs.YtalmmiojbmpmiaaGreatDoor
open Go.RowKit Go.Deep
theorem xe(x k:Int)(hx:jx x=true)(hk:okS k=true):jx (zZ x k)=true:=by
 have hi:=kO hx
 have hk:=ZV hk
 obtain⟨a,rfl⟩:∃a:Nat,x=a:=⟨x.toNat,by omega⟩
 obtain⟨b,rfl⟩:∃b:Nat,k=b:=⟨k.toNat,by omega⟩
 exact XV a b hx (by omega) (by omega)
theorem JV:jx 4=true:=by
 have:=XH 1 (by omega) (by omega)
 rw [show gpw 64 1 4 1=4 by decide]at this
 exact this
theorem Uk(n r:List UInt8):jx (QG n r*QG n r % 2147483579)=true:=by
 obtain⟨x,hx⟩:∃x:Nat,QG n r=x:=⟨(QG n r).toNat,by unfold QG;omega⟩
 have h1:2<=QG n r/\QG n r<2147483578:=by unfold QG;omega
 rw [hx]
 exact Qg x (by omega) (by omega)
def EB(r:Int×List UInt8)(w:World)(e:Ending)(w':World):Prop:=∃v',e=.returned (.tuple #[v',.int .i64 r.1])/\BsS w' (New w w') v' r.2/\Below w.heap.size w w'
theorem EB.no0{w w':World}{er:Int}{r:Int×List UInt8}(hr:r=(er,[]))(hb:Below w.heap.size w w'):EB r w (.returned (.tuple #[.slice none 0 0,.int .i64 er])) w':=by
 subst hr
 exact⟨_,rfl,⟨none,0,rfl,by simp,by omega,by simp,fun h=>by simp at h⟩,hb⟩
def pkW(kd:Int)(sec:List UInt8):Int×List UInt8:=if vPw kd sec=false then(14,[])else(0,kz kd sec)
theorem jW(kd:Int)(sec:List UInt8)(A:Option Addr)(c:Nat)(w:World):
 Calls Tryz.prog 45 #[.agg #[.int .i64 kd,.slice A sec.length c]] w fun e w'=>e=.returned (.bool (vPw kd sec))/\Below w.heap.size w w':=by
 have HB:Hid (Below w.heap.size w (w.alloc (.cells #[.int .i64 kd,.slice A sec.length c] 24))):=iH (jq _ _)
 have hcases:¬1<=kd\/(1<=kd/\¬kd<=4)\/(1<=kd/\kd<=4/\¬1<=sec.length)\/(1<=kd/\kd<=4/\1<=sec.length/\¬sec.length<=64)\/(1<=kd/\kd<=4/\1<=sec.length/\sec.length<=64):=by omega
 rcases hcases with h1|⟨h1,h2⟩|⟨h1,h2,h3⟩|⟨h1,h2,h3,h4⟩|⟨h1,h2,h3,h4⟩
 iterate 4 (have R:Hid (vPw kd sec=false):=iH (decide_eq_false (by omega));go_enter Tryz.func45,Tryz.ntmps45;go_wp2_with fail;go_ret;rw [R.out];refine⟨?_,HB.out⟩;first|rfl|(simp;omega))
 ·have R:Hid (vPw kd sec=true):=iH (decide_eq_true (by omega))
  go_enter Tryz.func45,Tryz.ntmps45;go_wp2_with fail;go_ret;rw [R.out];refine⟨?_,HB.out⟩;first|rfl|(simp;omega)
theorem jK(kd:Int)(sec:List UInt8)(A:Option Addr)(c:Nat)(w:World):
 Calls Tryz.prog 48 #[.agg #[.int .i64 kd,.slice A sec.length c]] w fun e w'=>e=.returned (.bool (vPw kd sec))/\Below w.heap.size w w':=by
 have HB:Hid (Below w.heap.size w (w.alloc (.cells #[.int .i64 kd,.slice A sec.length c] 24))):=iH (jq _ _)
 have hcases:¬1<=kd\/(1<=kd/\¬kd<=4)\/(1<=kd/\kd<=4/\¬1<=sec.length)\/(1<=kd/\kd<=4/\1<=sec.length/\¬sec.length<=64)\/(1<=kd/\kd<=4/\1<=sec.length/\sec.length<=64):=by omega
 rcases hcases with h1|⟨h1,h2⟩|⟨h1,h2,h3⟩|⟨h1,h2,h3,h4⟩|⟨h1,h2,h3,h4⟩
 iterate 4 (have R:Hid (vPw kd sec=false):=iH (decide_eq_false (by omega));go_enter Tryz.func48,Tryz.ntmps48;go_wp2_with fail;go_ret;rw [R.out];refine⟨?_,HB.out⟩;first|rfl|(simp;omega))
 ·have R:Hid (vPw kd sec=true):=iH (decide_eq_true (by omega))
  go_enter Tryz.func48,Tryz.ntmps48;go_wp2_with fail;go_ret;rw [R.out];refine⟨?_,HB.out⟩;first|rfl|(simp;omega)
theorem kY(kd:Int)(sec:List UInt8)(A:Option Addr)(c:Nat)(w:World)(hK:KD w)(hv:Bs w w.heap.size (.slice A sec.length c) sec):
 Calls Tryz.prog 16 #[.agg #[.int .i64 kd,.slice A sec.length c]] w (EB (pkW kd sec) w):=by
 obtain⟨w0,hw0⟩:∃w0,w0=w.alloc (.cells #[.int .i64 kd,.slice A sec.length c] 24):=⟨_,rfl⟩
 have HB0:Hid (Below w.heap.size w w0):=iH (by rw [hw0];exact jq _ _)
 have HH0:Hid (w0.heap[w.heap.size]?=some (.cells #[.int .i64 kd,.slice A sec.length c] 24 (0,0))):=iH (by rw [hw0];exact iN)
 have HLT:Hid (w.heap.size<w0.heap.size):=iH (by rw [hw0];simp)
 have HW0:=iH hw0;have HV:=iH hv;have HK:=iH hK
 obtain⟨f0,f1,_⟩:=two HH0.out
 clear hw0 hv hK
 rcases hp:vPw kd sec with _|_
 ·have HVP:=iH hp
  have R:Hid (pkW kd sec=(14,[])):=iH (by unfold pkW;rw [iT hp])
  clear hp
  go_enter Tryz.func16,Tryz.ntmps16
  go_upto_region 1 with fail
  rw [<-HW0.out]
  go_wp2_with(go_at_call 45;refine(jW kd sec A c w0).mono ?_;rw [HVP.out];rintro e w1 ⟨rfl,hb⟩;have HB1:=iH hb;obtain⟨y0,y1,_⟩:=two ((hb.block w.heap.size HLT.out).trans HH0.out);clear hb)
  go_ret2
  exact EB.no0 R.out (HB0.out.trans (HB1.out.mono HB0.out.size))
 ·have HVP:=iH hp
  have HLS:Hid (sec.length<=64):=iH (by have:=of_decide_eq_true hp;omega)
  by_cases hk:kd=1
  ·have R:Hid (pkW kd sec=(0,ZB (qK sec) 3)):=iH (by unfold pkW kz;rw [hp,iF (by simp),iT hk])
   have t1:(kd==1)=true:=by simpa using hk
   clear hp hk
   go_enter Tryz.func16,Tryz.ntmps16
   go_upto_region 1 with fail
   rw [<-HW0.out]
   go_wp2_with(first
    |(go_at_call 47;refine(QB 3 (by omega) (by omega) _ (qK sec) w2 (HK.out.below HB2.out HK.out.lt) HS2.out (by have:=HLS.out;first|omega|(rw [ji];omega))).mono ?_;rintro e w3 ⟨v3,rfl,hs,hb⟩;have HS3:=iH hs;have HB3:=iH hb;clear hs hb)
    |(go_at_call 46;refine(Ql _ sec (by have:=HLS.out;omega) w1 (HK.out.below (HB0.out.trans (HB1.out.mono HB0.out.size)) HK.out.lt) ((HV.out.lift HB0.out).lift HB1.out)).mono ?_;rintro e w2 ⟨v2,rfl,hs,hb⟩;have HS2:Hid (Bs w2 w2.heap.size v2 (qK sec)):=iH (BsS.keep hs fun g hg _=>⟨rfl,hg.2⟩);have HB2:Hid (Below w.heap.size w w2):=iH ((HB0.out.trans (HB1.out.mono HB0.out.size)).trans (hb.mono (HB0.out.trans (HB1.out.mono HB0.out.size)).size));clear hs hb)
    |(go_at_call 45;refine(jW kd sec A c w0).mono ?_;rw [HVP.out];rintro e w1 ⟨rfl,hb⟩;have HB1:=iH hb;obtain⟨y0,y1,_⟩:=two ((hb.block w.heap.size HLT.out).trans HH0.out);clear hb))
   go_ret2
   refine⟨_,by rw [R.out]<;>rfl,?_,HB2.out.trans (HB3.out.mono HB2.out.size)⟩
   rw [R.out]
   exact HS3.out.keep fun g hg _=>⟨rfl,Nat.le_trans HB2.out.size hg.1,hg.2⟩
  ·have R:Hid (pkW kd sec=(0,ZB sec 3)):=iH (by unfold pkW kz;rw [hp,iF (by simp),iF hk])
   have t1:(kd==1)=false:=by simpa using hk
   clear hp hk
   go_enter Tryz.func16,Tryz.ntmps16
   go_upto_region 1 with fail
   rw [<-HW0.out]
   go_wp2_with(first
    |(go_at_call 47;refine(QB 3 (by omega) (by omega) _ (sec) w1 (HK.out.below HB2.out HK.out.lt) ((HV.out.lift HB0.out).lift HB1.out) (by have:=HLS.out;first|omega|(rw [ji];omega))).mono ?_;rintro e w3 ⟨v3,rfl,hs,hb⟩;have HS3:=iH hs;have HB3:=iH hb;clear hs hb)
    |(go_at_call 45;refine(jW kd sec A c w0).mono ?_;rw [HVP.out];rintro e w1 ⟨rfl,hb⟩;have HB1:=iH hb;obtain⟨y0,y1,_⟩:=two ((hb.block w.heap.size HLT.out).trans HH0.out);clear hb;have HB2:Hid (Below w.heap.size w w1):=iH (HB0.out.trans (HB1.out.mono HB0.out.size))))
   go_ret2
   refine⟨_,by rw [R.out]<;>rfl,?_,HB2.out.trans (HB3.out.mono HB2.out.size)⟩
   rw [R.out]
   exact HS3.out.keep fun g hg _=>⟨rfl,Nat.le_trans HB2.out.size hg.1,hg.2⟩
theorem kH(kd:Int)(sec:List UInt8)(A:Option Addr)(c:Nat)(w:World)(hK:KR w)(hv:Bs w w.heap.size (.slice A sec.length c) sec):
 Calls Tryz.prog 17 #[.agg #[.int .i64 kd,.slice A sec.length c]] w (EB (pkW kd sec) w):=by
 obtain⟨w0,hw0⟩:∃w0,w0=w.alloc (.cells #[.int .i64 kd,.slice A sec.length c] 24):=⟨_,rfl⟩
 have HB0:Hid (Below w.heap.size w w0):=iH (by rw [hw0];exact jq _ _)
 have HH0:Hid (w0.heap[w.heap.size]?=some (.cells #[.int .i64 kd,.slice A sec.length c] 24 (0,0))):=iH (by rw [hw0];exact iN)
 have HLT:Hid (w.heap.size<w0.heap.size):=iH (by rw [hw0];simp)
 have HW0:=iH hw0;have HV:=iH hv;have HK:=iH hK
 obtain⟨f0,f1,_⟩:=two HH0.out
 clear hw0 hv hK
 rcases hp:vPw kd sec with _|_
 ·have HVP:=iH hp
  have R:Hid (pkW kd sec=(14,[])):=iH (by unfold pkW;rw [iT hp])
  clear hp
  go_enter Tryz.func17,Tryz.ntmps17
  go_upto_region 1 with fail
  rw [<-HW0.out]
  go_wp2_with(go_at_call 48;refine(jK kd sec A c w0).mono ?_;rw [HVP.out];rintro e w1 ⟨rfl,hb⟩;have HB1:=iH hb;obtain⟨y0,y1,_⟩:=two ((hb.block w.heap.size HLT.out).trans HH0.out);clear hb)
  go_ret2
  exact EB.no0 R.out (HB0.out.trans (HB1.out.mono HB0.out.size))
 ·have HVP:=iH hp
  have HLS:Hid (sec.length<=64):=iH (by have:=of_decide_eq_true hp;omega)
  by_cases hk:kd=1
  ·have R:Hid (pkW kd sec=(0,ZB (qK sec) 3)):=iH (by unfold pkW kz;rw [hp,iF (by simp),iT hk])
   have t1:(kd==1)=true:=by simpa using hk
   clear hp hk
   go_enter Tryz.func17,Tryz.ntmps17
   go_upto_region 1 with fail
   rw [<-HW0.out]
   go_wp2_with(first
    |(go_at_call 50;refine(Kl 3 (by omega) (by omega) _ (qK sec) w2 (HK.out.below HB2.out HK.out.lt) HS2.out (by have:=HLS.out;first|omega|(rw [ji];omega))).mono ?_;rintro e w3 ⟨v3,rfl,hs,hb⟩;have HS3:=iH hs;have HB3:=iH hb;clear hs hb)
    |(go_at_call 49;refine(Jr _ sec (by have:=HLS.out;omega) w1 (HK.out.below (HB0.out.trans (HB1.out.mono HB0.out.size)) HK.out.lt) ((HV.out.lift HB0.out).lift HB1.out)).mono ?_;rintro e w2 ⟨v2,rfl,hs,hb⟩;have HS2:Hid (Bs w2 w2.heap.size v2 (qK sec)):=iH (BsS.keep hs fun g hg _=>⟨rfl,hg.2⟩);have HB2:Hid (Below w.heap.size w w2):=iH ((HB0.out.trans (HB1.out.mono HB0.out.size)).trans (hb.mono (HB0.out.trans (HB1.out.mono HB0.out.size)).size));clear hs hb)
    |(go_at_call 48;refine(jK kd sec A c w0).mono ?_;rw [HVP.out];rintro e w1 ⟨rfl,hb⟩;have HB1:=iH hb;obtain⟨y0,y1,_⟩:=two ((hb.block w.heap.size HLT.out).trans HH0.out);clear hb))
   go_ret2
   refine⟨_,by rw [R.out]<;>rfl,?_,HB2.out.trans (HB3.out.mono HB2.out.size)⟩
   rw [R.out]
   exact HS3.out.keep fun g hg _=>⟨rfl,Nat.le_trans HB2.out.size hg.1,hg.2⟩
  ·have R:Hid (pkW kd sec=(0,ZB sec 3)):=iH (by unfold pkW kz;rw [hp,iF (by simp),iF hk])
   have t1:(kd==1)=false:=by simpa using hk
   clear hp hk
   go_enter Tryz.func17,Tryz.ntmps17
   go_upto_region 1 with fail
   rw [<-HW0.out]
   go_wp2_with(first
    |(go_at_call 50;refine(Kl 3 (by omega) (by omega) _ (sec) w1 (HK.out.below HB2.out HK.out.lt) ((HV.out.lift HB0.out).lift HB1.out) (by have:=HLS.out;first|omega|(rw [ji];omega))).mono ?_;rintro e w3 ⟨v3,rfl,hs,hb⟩;have HS3:=iH hs;have HB3:=iH hb;clear hs hb)
    |(go_at_call 48;refine(jK kd sec A c w0).mono ?_;rw [HVP.out];rintro e w1 ⟨rfl,hb⟩;have HB1:=iH hb;obtain⟨y0,y1,_⟩:=two ((hb.block w.heap.size HLT.out).trans HH0.out);clear hb;have HB2:Hid (Below w.heap.size w w1):=iH (HB0.out.trans (HB1.out.mono HB0.out.size))))
   go_ret2
   refine⟨_,by rw [R.out]<;>rfl,?_,HB2.out.trans (HB3.out.mono HB2.out.size)⟩
   rw [R.out]
   exact HS3.out.keep fun g hg _=>⟨rfl,Nat.le_trans HB2.out.size hg.1,hg.2⟩
def zY(out:List UInt8->List UInt8->List UInt8)(kd:Int)(sec b:List UInt8):Int×List UInt8:=if vPw kd sec=false then(14,[])else if ¬b.length=16 then(2,[])else(0,out (kz kd sec) b)
theorem Zf(out:List UInt8->List UInt8->List UInt8)(hf:∀(vk vi vb:Value) (k b:List UInt8),k.length=16->b.length=16->∀(w:World),Bs w w.heap.size vk k->Bs w w.heap.size vi Z16->Bs w w.heap.size vb b->Calls Tryz.prog 52 #[vk,vi,vb] w fun e w'=>∃v',e=.returned (.tuple #[v',.int .i64 0])/\BsS w' (New w w') v' (out k b)/\Below w.heap.size w w')
 (kd:Int) (sec:List UInt8) (A:Option Addr) (c:Nat) (b:List UInt8) (B:Option Addr) (d:Nat) (w:World) (hK:KD w) (hv:Bs w w.heap.size (.slice A sec.length c) sec) (hb:Bs w w.heap.size (.slice B b.length d) b):
 Calls Tryz.prog 51 #[.agg #[.int .i64 kd,.slice A sec.length c],.slice B b.length d,.func (.func 52) #[] #[]] w (EB (zY out kd sec b) w):=by
 have HF:=iH hf
 clear hf
 obtain⟨w0,hw0⟩:∃w0,w0=w.alloc (.cells #[.int .i64 kd,.slice A sec.length c] 24):=⟨_,rfl⟩
 have HB0:Hid (Below w.heap.size w w0):=iH (by rw [hw0];exact jq _ _)
 have HW0:=iH hw0
 obtain⟨f0,f1,_⟩:=two (show w0.heap[w.heap.size]?=some (.cells #[.int .i64 kd,.slice A sec.length c] 24 (0,0))by rw [hw0];exact iN)
 have HVA:=iH (hv.lift HB0.out);have HKA:=iH (hK.below HB0.out hK.lt);have HVB:=iH (hb.lift HB0.out)
 clear hw0 hv hK hb
 rcases hp:vPw kd sec with _|_
 ·have R0:Hid (pkW kd sec=(14,[])):=iH (by unfold pkW;rw [iT hp])
  have R:Hid (zY out kd sec b=(14,[])):=iH (iT hp)
  clear hp
  go_enter Tryz.func51,Tryz.ntmps51
  go_upto_region 1 with fail
  rw [<-HW0.out]
  go_wp2_with(go_at_call 16;refine(kY kd sec A c w0 HKA.out HVA.out).mono ?_;rw [R0.out];rintro e w1 ⟨v1,rfl,hs,hb⟩;obtain⟨A1,c1,hv1⟩:=Bs.formL hs;subst hv1;have HS1:=iH hs;have HB1:=iH hb;clear hs hb)
  go_ret2
  exact EB.no0 R.out (HB0.out.trans (HB1.out.mono HB0.out.size))
 have R0:Hid (pkW kd sec=(0,kz kd sec)):=iH (by unfold pkW;rw [iF (by rw [hp];simp)])
 by_cases hl:b.length=16
 ·have R:Hid (zY out kd sec b=(0,out (kz kd sec) b)):=iH ((iF (by rw [hp];simp)).trans (iF (fun h=>h hl)))
  have t1:((b.length:Int) != 16)=false:=by simp;omega
  have HL:=iH hl
  clear hp hl
  have Hm:=QK
  go_enter Tryz.func51,Tryz.ntmps51
  go_upto_region 1 with fail
  rw [<-HW0.out]
  go_wp2_with(first
   |(go_at_call 52;refine(HF.out _ _ _ (kz kd sec) b (zh _ _) HL.out (wz w1) (HS1.out.keep fun g hg hl=>⟨(jv w1).block g hl,iZ hl (jv w1).size⟩) (BsS.keep (X7 w1) fun g hg _=>⟨rfl,hg.2⟩) ((HVB.out.lift HB1.out).lift (jv w1))).mono ?_;rintro e w2 ⟨v2,rfl,hs,hb⟩;have HS2:=iH hs;have HB2:=iH ((jv w1).trans (hb.mono (jv w1).size));clear hs hb)
   |(go_at_call 16;refine(kY kd sec A c w0 HKA.out HVA.out).mono ?_;rw [R0.out];rintro e w1 ⟨v1,rfl,hs,hb⟩;obtain⟨A1,c1,hv1⟩:=Bs.formL hs;subst hv1;have HS1:=iH hs;have HB1:=iH hb;clear hs hb))
  go_ret2
  refine⟨_,by rw [R.out]<;>rfl,?_,(HB0.out.trans (HB1.out.mono HB0.out.size)).trans (HB2.out.mono (HB0.out.trans (HB1.out.mono HB0.out.size)).size)⟩
  rw [R.out]
  exact HS2.out.keep fun g hg _=>⟨rfl,Nat.le_trans (HB0.out.trans (HB1.out.mono HB0.out.size)).size (Nat.le_trans (jv w1).size hg.1),hg.2⟩
 ·have R:Hid (zY out kd sec b=(2,[])):=iH ((iF (by rw [hp];simp)).trans (iT hl))
  have t1:((b.length:Int) != 16)=true:=by simp;omega
  clear hp hl
  go_enter Tryz.func51,Tryz.ntmps51
  go_upto_region 1 with fail
  rw [<-HW0.out]
  go_wp2_with(go_at_call 16;refine(kY kd sec A c w0 HKA.out HVA.out).mono ?_;rw [R0.out];rintro e w1 ⟨v1,rfl,hs,hb⟩;obtain⟨A1,c1,hv1⟩:=Bs.formL hs;subst hv1;have HS1:=iH hs;have HB1:=iH hb;clear hs hb)
  go_ret2
  exact EB.no0 R.out (HB0.out.trans (HB1.out.mono HB0.out.size))
theorem Zd(out:List UInt8->List UInt8->List UInt8)(hf:∀(vk vi vb:Value) (k b:List UInt8),k.length=16->b.length=16->∀(w:World),Bs w w.heap.size vk k->Bs w w.heap.size vi Z16->Bs w w.heap.size vb b->Calls Tryz.prog 54 #[vk,vi,vb] w fun e w'=>∃v',e=.returned (.tuple #[v',.int .i64 0])/\BsS w' (New w w') v' (out k b)/\Below w.heap.size w w')
 (kd:Int) (sec:List UInt8) (A:Option Addr) (c:Nat) (b:List UInt8) (B:Option Addr) (d:Nat) (w:World) (hK:KD w) (hv:Bs w w.heap.size (.slice A sec.length c) sec) (hb:Bs w w.heap.size (.slice B b.length d) b):
 Calls Tryz.prog 51 #[.agg #[.int .i64 kd,.slice A sec.length c],.slice B b.length d,.func (.func 54) #[] #[]] w (EB (zY out kd sec b) w):=by
 have HF:=iH hf
 clear hf
 obtain⟨w0,hw0⟩:∃w0,w0=w.alloc (.cells #[.int .i64 kd,.slice A sec.length c] 24):=⟨_,rfl⟩
 have HB0:Hid (Below w.heap.size w w0):=iH (by rw [hw0];exact jq _ _)
 have HW0:=iH hw0
 obtain⟨f0,f1,_⟩:=two (show w0.heap[w.heap.size]?=some (.cells #[.int .i64 kd,.slice A sec.length c] 24 (0,0))by rw [hw0];exact iN)
 have HVA:=iH (hv.lift HB0.out);have HKA:=iH (hK.below HB0.out hK.lt);have HVB:=iH (hb.lift HB0.out)
 clear hw0 hv hK hb
 rcases hp:vPw kd sec with _|_
 ·have R0:Hid (pkW kd sec=(14,[])):=iH (by unfold pkW;rw [iT hp])
  have R:Hid (zY out kd sec b=(14,[])):=iH (iT hp)
  clear hp
  go_enter Tryz.func51,Tryz.ntmps51
  go_upto_region 1 with fail
  rw [<-HW0.out]
  go_wp2_with(go_at_call 16;refine(kY kd sec A c w0 HKA.out HVA.out).mono ?_;rw [R0.out];rintro e w1 ⟨v1,rfl,hs,hb⟩;obtain⟨A1,c1,hv1⟩:=Bs.formL hs;subst hv1;have HS1:=iH hs;have HB1:=iH hb;clear hs hb)
  go_ret2
  exact EB.no0 R.out (HB0.out.trans (HB1.out.mono HB0.out.size))
 have R0:Hid (pkW kd sec=(0,kz kd sec)):=iH (by unfold pkW;rw [iF (by rw [hp];simp)])
 by_cases hl:b.length=16
 ·have R:Hid (zY out kd sec b=(0,out (kz kd sec) b)):=iH ((iF (by rw [hp];simp)).trans (iF (fun h=>h hl)))
  have t1:((b.length:Int) != 16)=false:=by simp;omega
  have HL:=iH hl
  clear hp hl
  have Hm:=QK
  go_enter Tryz.func51,Tryz.ntmps51
  go_upto_region 1 with fail
  rw [<-HW0.out]
  go_wp2_with(first
   |(go_at_call 54;refine(HF.out _ _ _ (kz kd sec) b (zh _ _) HL.out (wz w1) (HS1.out.keep fun g hg hl=>⟨(jv w1).block g hl,iZ hl (jv w1).size⟩) (BsS.keep (X7 w1) fun g hg _=>⟨rfl,hg.2⟩) ((HVB.out.lift HB1.out).lift (jv w1))).mono ?_;rintro e w2 ⟨v2,rfl,hs,hb⟩;have HS2:=iH hs;have HB2:=iH ((jv w1).trans (hb.mono (jv w1).size));clear hs hb)
   |(go_at_call 16;refine(kY kd sec A c w0 HKA.out HVA.out).mono ?_;rw [R0.out];rintro e w1 ⟨v1,rfl,hs,hb⟩;obtain⟨A1,c1,hv1⟩:=Bs.formL hs;subst hv1;have HS1:=iH hs;have HB1:=iH hb;clear hs hb))
  go_ret2
  refine⟨_,by rw [R.out]<;>rfl,?_,(HB0.out.trans (HB1.out.mono HB0.out.size)).trans (HB2.out.mono (HB0.out.trans (HB1.out.mono HB0.out.size)).size)⟩
  rw [R.out]
  exact HS2.out.keep fun g hg _=>⟨rfl,Nat.le_trans (HB0.out.trans (HB1.out.mono HB0.out.size)).size (Nat.le_trans (jv w1).size hg.1),hg.2⟩
 ·have R:Hid (zY out kd sec b=(2,[])):=iH ((iF (by rw [hp];simp)).trans (iT hl))
  have t1:((b.length:Int) != 16)=true:=by simp;omega
  clear hp hl
  go_enter Tryz.func51,Tryz.ntmps51
  go_upto_region 1 with fail
  rw [<-HW0.out]
  go_wp2_with(go_at_call 16;refine(kY kd sec A c w0 HKA.out HVA.out).mono ?_;rw [R0.out];rintro e w1 ⟨v1,rfl,hs,hb⟩;obtain⟨A1,c1,hv1⟩:=Bs.formL hs;subst hv1;have HS1:=iH hs;have HB1:=iH hb;clear hs hb)
  go_ret2
  exact EB.no0 R.out (HB0.out.trans (HB1.out.mono HB0.out.size))
theorem QF(kd:Int)(sec:List UInt8)(A:Option Addr)(c:Nat)(b:List UInt8)(B:Option Addr)(d:Nat)(w:World)(hK:KD w)(hv:Bs w w.heap.size (.slice A sec.length c) sec)(hb:Bs w w.heap.size (.slice B b.length d) b):
 Calls Tryz.prog 18 #[.agg #[.int .i64 kd,.slice A sec.length c],.slice B b.length d] w (EB (kP kd sec b) w):=by
 obtain⟨w0,hw0⟩:∃w0,w0=w.alloc (.cells #[.int .i64 kd,.slice A sec.length c] 24):=⟨_,rfl⟩
 have HB0:Hid (Below w.heap.size w w0):=iH (by rw [hw0];exact jq _ _)
 obtain⟨out,hout⟩:∃out:List UInt8->List UInt8->List UInt8,out=fun k b=>kQ k Z16 b:=⟨_,rfl⟩
 rw [show kP kd sec b=zY out kd sec b by simp only [kP,Z5,zY,hout]]
 have H:=iH (Zf out (by rw [hout];exact fun vk vi vb k b hk hb w h1 h2 h3=>Yl vk vi vb k Z16 b 1 hk yM (by omega) w h1 h2 h3) kd sec A c b B d w0 (hK.below HB0.out hK.lt) (hv.lift HB0.out) (hb.lift HB0.out))
 have HW0:=iH hw0
 obtain⟨f0,f1,_⟩:=two (show w0.heap[w.heap.size]?=some (.cells #[.int .i64 kd,.slice A sec.length c] 24 (0,0))by rw [hw0];exact iN)
 clear hw0 hv hK hb hout
 go_enter Tryz.func18,Tryz.ntmps18
 go_upto_region 1 with fail
 rw [<-HW0.out]
 go_wp2_with(go_at_call 51;refine H.out.mono ?_;rintro e w1 ⟨v1,rfl,hs,hb⟩;have HS1:=iH hs;have HB1:=iH hb;clear hs hb)
 go_ret2
 exact⟨_,rfl,HS1.out.keep fun g hg _=>⟨rfl,Nat.le_trans HB0.out.size hg.1,hg.2⟩,HB0.out.trans (HB1.out.mono HB0.out.size)⟩
theorem XM(kd:Int)(sec:List UInt8)(A:Option Addr)(c:Nat)(b:List UInt8)(B:Option Addr)(d:Nat)(w:World)(hK:KD w)(hv:Bs w w.heap.size (.slice A sec.length c) sec)(hb:Bs w w.heap.size (.slice B b.length d) b):
 Calls Tryz.prog 20 #[.agg #[.int .i64 kd,.slice A sec.length c],.slice B b.length d] w (EB (Z5 kd sec b) w):=by
 obtain⟨w0,hw0⟩:∃w0,w0=w.alloc (.cells #[.int .i64 kd,.slice A sec.length c] 24):=⟨_,rfl⟩
 have HB0:Hid (Below w.heap.size w w0):=iH (by rw [hw0];exact jq _ _)
 obtain⟨out,hout⟩:∃out:List UInt8->List UInt8->List UInt8,out=fun k b=>Jf k Z16 b:=⟨_,rfl⟩
 rw [show Z5 kd sec b=zY out kd sec b by simp only [kP,Z5,zY,hout]]
 have H:=iH (Zd out (by rw [hout];exact fun vk vi vb k b hk hb w h1 h2 h3=>Y3 vk vi vb k Z16 b 1 hk yM (by omega) w h1 h2 h3) kd sec A c b B d w0 (hK.below HB0.out hK.lt) (hv.lift HB0.out) (hb.lift HB0.out))
 have HW0:=iH hw0
 obtain⟨f0,f1,_⟩:=two (show w0.heap[w.heap.size]?=some (.cells #[.int .i64 kd,.slice A sec.length c] 24 (0,0))by rw [hw0];exact iN)
 clear hw0 hv hK hb hout
 go_enter Tryz.func20,Tryz.ntmps20
 go_upto_region 1 with fail
 rw [<-HW0.out]
 go_wp2_with(go_at_call 51;refine H.out.mono ?_;rintro e w1 ⟨v1,rfl,hs,hb⟩;have HS1:=iH hs;have HB1:=iH hb;clear hs hb)
 go_ret2
 exact⟨_,rfl,HS1.out.keep fun g hg _=>⟨rfl,Nat.le_trans HB0.out.size hg.1,hg.2⟩,HB0.out.trans (HB1.out.mono HB0.out.size)⟩
theorem Yg(kd:Int)(sec:List UInt8)(A:Option Addr)(c:Nat)(b:List UInt8)(B:Option Addr)(d:Nat)(w:World)(hK:KR w)(hv:Bs w w.heap.size (.slice A sec.length c) sec)(hb:Bs w w.heap.size (.slice B b.length d) b):
 Calls Tryz.prog 19 #[.agg #[.int .i64 kd,.slice A sec.length c],.slice B b.length d] w (EB (kP kd sec b) w):=by
 obtain⟨out,hout⟩:∃out:List UInt8->List UInt8->List UInt8,out=fun k b=>kQ k Z16 b:=⟨_,rfl⟩
 have hf:∀(vk vi vb:Value) (k b:List UInt8),k.length=16->b.length=16->∀(w:World),Bs w w.heap.size vk k->Bs w w.heap.size vi Z16->Bs w w.heap.size vb b->Calls Tryz.prog 53 #[vk,vi,vb] w fun e w'=>∃v',e=.returned (.tuple #[v',.int .i64 0])/\BsS w' (New w w') v' (out k b)/\Below w.heap.size w w':=by
  rw [hout]
  exact fun vk vi vb k b hk hb w h1 h2 h3=>Ko vk vi vb k Z16 b 1 hk yM (by omega) w h1 h2 h3
 have HF:=iH hf
 rw [show kP kd sec b=zY out kd sec b by simp only [kP,Z5,zY,hout]]
 clear hf hout
 obtain⟨w0,hw0⟩:∃w0,w0=w.alloc (.cells #[.int .i64 kd,.slice A sec.length c] 24):=⟨_,rfl⟩
 have HB0:Hid (Below w.heap.size w w0):=iH (by rw [hw0];exact jq _ _)
 have HW0:=iH hw0
 obtain⟨f0,f1,_⟩:=two (show w0.heap[w.heap.size]?=some (.cells #[.int .i64 kd,.slice A sec.length c] 24 (0,0))by rw [hw0];exact iN)
 have HVA:=iH (hv.lift HB0.out);have HKA:=iH (hK.below HB0.out hK.lt);have HVB:=iH (hb.lift HB0.out)
 clear hw0 hv hK hb
 rcases hp:vPw kd sec with _|_
 ·have R0:Hid (pkW kd sec=(14,[])):=iH (by unfold pkW;rw [iT hp])
  have R:Hid (zY out kd sec b=(14,[])):=iH (iT hp)
  clear hp
  go_enter Tryz.func19,Tryz.ntmps19
  go_upto_region 1 with fail
  rw [<-HW0.out]
  go_wp2_with(go_at_call 17;refine(kH kd sec A c w0 HKA.out HVA.out).mono ?_;rw [R0.out];rintro e w1 ⟨v1,rfl,hs,hb⟩;obtain⟨A1,c1,hv1⟩:=Bs.formL hs;subst hv1;have HS1:=iH hs;have HB1:=iH hb;clear hs hb)
  go_ret2
  exact EB.no0 R.out (HB0.out.trans (HB1.out.mono HB0.out.size))
 have R0:Hid (pkW kd sec=(0,kz kd sec)):=iH (by unfold pkW;rw [iF (by rw [hp];simp)])
 by_cases hl:b.length=16
 ·have R:Hid (zY out kd sec b=(0,out (kz kd sec) b)):=iH ((iF (by rw [hp];simp)).trans (iF (fun h=>h hl)))
  have t1:((b.length:Int) != 16)=false:=by simp;omega
  have HL:=iH hl
  clear hp hl
  have Hm:=QK
  go_enter Tryz.func19,Tryz.ntmps19
  go_upto_region 1 with fail
  rw [<-HW0.out]
  go_wp2_with(first
   |(go_at_call 53;refine(HF.out _ _ _ (kz kd sec) b (zh _ _) HL.out (wz w1) (HS1.out.keep fun g hg hl=>⟨(jv w1).block g hl,iZ hl (jv w1).size⟩) (BsS.keep (X7 w1) fun g hg _=>⟨rfl,hg.2⟩) ((HVB.out.lift HB1.out).lift (jv w1))).mono ?_;rintro e w2 ⟨v2,rfl,hs,hb⟩;have HS2:=iH hs;have HB2:=iH ((jv w1).trans (hb.mono (jv w1).size));clear hs hb)
   |(go_at_call 17;refine(kH kd sec A c w0 HKA.out HVA.out).mono ?_;rw [R0.out];rintro e w1 ⟨v1,rfl,hs,hb⟩;obtain⟨A1,c1,hv1⟩:=Bs.formL hs;subst hv1;have HS1:=iH hs;have HB1:=iH hb;clear hs hb))
  go_ret2
  refine⟨_,by rw [R.out]<;>rfl,?_,(HB0.out.trans (HB1.out.mono HB0.out.size)).trans (HB2.out.mono (HB0.out.trans (HB1.out.mono HB0.out.size)).size)⟩
  rw [R.out]
  exact HS2.out.keep fun g hg _=>⟨rfl,Nat.le_trans (HB0.out.trans (HB1.out.mono HB0.out.size)).size (Nat.le_trans (jv w1).size hg.1),hg.2⟩
 ·have R:Hid (zY out kd sec b=(2,[])):=iH ((iF (by rw [hp];simp)).trans (iT hl))
  have t1:((b.length:Int) != 16)=true:=by simp;omega
  clear hp hl
  go_enter Tryz.func19,Tryz.ntmps19
  go_upto_region 1 with fail
  rw [<-HW0.out]
  go_wp2_with(go_at_call 17;refine(kH kd sec A c w0 HKA.out HVA.out).mono ?_;rw [R0.out];rintro e w1 ⟨v1,rfl,hs,hb⟩;obtain⟨A1,c1,hv1⟩:=Bs.formL hs;subst hv1;have HS1:=iH hs;have HB1:=iH hb;clear hs hb)
  go_ret2
  exact EB.no0 R.out (HB0.out.trans (HB1.out.mono HB0.out.size))
theorem Qc(kd:Int)(sec:List UInt8)(A:Option Addr)(c:Nat)(b:List UInt8)(B:Option Addr)(d:Nat)(w:World)(hK:KR w)(hv:Bs w w.heap.size (.slice A sec.length c) sec)(hb:Bs w w.heap.size (.slice B b.length d) b):
 Calls Tryz.prog 21 #[.agg #[.int .i64 kd,.slice A sec.length c],.slice B b.length d] w (EB (Z5 kd sec b) w):=by
 obtain⟨out,hout⟩:∃out:List UInt8->List UInt8->List UInt8,out=fun k b=>Jf k Z16 b:=⟨_,rfl⟩
 have hf:∀(vk vi vb:Value) (k b:List UInt8),k.length=16->b.length=16->∀(w:World),Bs w w.heap.size vk k->Bs w w.heap.size vi Z16->Bs w w.heap.size vb b->Calls Tryz.prog 55 #[vk,vi,vb] w fun e w'=>∃v',e=.returned (.tuple #[v',.int .i64 0])/\BsS w' (New w w') v' (out k b)/\Below w.heap.size w w':=by
  rw [hout]
  exact fun vk vi vb k b hk hb w h1 h2 h3=>Kn vk vi vb k Z16 b 1 hk yM (by omega) w h1 h2 h3
 have HF:=iH hf
 rw [show Z5 kd sec b=zY out kd sec b by simp only [kP,Z5,zY,hout]]
 clear hf hout
 obtain⟨w0,hw0⟩:∃w0,w0=w.alloc (.cells #[.int .i64 kd,.slice A sec.length c] 24):=⟨_,rfl⟩
 have HB0:Hid (Below w.heap.size w w0):=iH (by rw [hw0];exact jq _ _)
 have HW0:=iH hw0
 obtain⟨f0,f1,_⟩:=two (show w0.heap[w.heap.size]?=some (.cells #[.int .i64 kd,.slice A sec.length c] 24 (0,0))by rw [hw0];exact iN)
 have HVA:=iH (hv.lift HB0.out);have HKA:=iH (hK.below HB0.out hK.lt);have HVB:=iH (hb.lift HB0.out)
 clear hw0 hv hK hb
 rcases hp:vPw kd sec with _|_
 ·have R0:Hid (pkW kd sec=(14,[])):=iH (by unfold pkW;rw [iT hp])
  have R:Hid (zY out kd sec b=(14,[])):=iH (iT hp)
  clear hp
  go_enter Tryz.func21,Tryz.ntmps21
  go_upto_region 1 with fail
  rw [<-HW0.out]
  go_wp2_with(go_at_call 17;refine(kH kd sec A c w0 HKA.out HVA.out).mono ?_;rw [R0.out];rintro e w1 ⟨v1,rfl,hs,hb⟩;obtain⟨A1,c1,hv1⟩:=Bs.formL hs;subst hv1;have HS1:=iH hs;have HB1:=iH hb;clear hs hb)
  go_ret2
  exact EB.no0 R.out (HB0.out.trans (HB1.out.mono HB0.out.size))
 have R0:Hid (pkW kd sec=(0,kz kd sec)):=iH (by unfold pkW;rw [iF (by rw [hp];simp)])
 by_cases hl:b.length=16
 ·have R:Hid (zY out kd sec b=(0,out (kz kd sec) b)):=iH ((iF (by rw [hp];simp)).trans (iF (fun h=>h hl)))
  have t1:((b.length:Int) != 16)=false:=by simp;omega
  have HL:=iH hl
  clear hp hl
  have Hm:=QK
  go_enter Tryz.func21,Tryz.ntmps21
  go_upto_region 1 with fail
  rw [<-HW0.out]
  go_wp2_with(first
   |(go_at_call 55;refine(HF.out _ _ _ (kz kd sec) b (zh _ _) HL.out (wz w1) (HS1.out.keep fun g hg hl=>⟨(jv w1).block g hl,iZ hl (jv w1).size⟩) (BsS.keep (X7 w1) fun g hg _=>⟨rfl,hg.2⟩) ((HVB.out.lift HB1.out).lift (jv w1))).mono ?_;rintro e w2 ⟨v2,rfl,hs,hb⟩;have HS2:=iH hs;have HB2:=iH ((jv w1).trans (hb.mono (jv w1).size));clear hs hb)
   |(go_at_call 17;refine(kH kd sec A c w0 HKA.out HVA.out).mono ?_;rw [R0.out];rintro e w1 ⟨v1,rfl,hs,hb⟩;obtain⟨A1,c1,hv1⟩:=Bs.formL hs;subst hv1;have HS1:=iH hs;have HB1:=iH hb;clear hs hb))
  go_ret2
  refine⟨_,by rw [R.out]<;>rfl,?_,(HB0.out.trans (HB1.out.mono HB0.out.size)).trans (HB2.out.mono (HB0.out.trans (HB1.out.mono HB0.out.size)).size)⟩
  rw [R.out]
  exact HS2.out.keep fun g hg _=>⟨rfl,Nat.le_trans (HB0.out.trans (HB1.out.mono HB0.out.size)).size (Nat.le_trans (jv w1).size hg.1),hg.2⟩
 ·have R:Hid (zY out kd sec b=(2,[])):=iH ((iF (by rw [hp];simp)).trans (iT hl))
  have t1:((b.length:Int) != 16)=true:=by simp;omega
  clear hp hl
  go_enter Tryz.func21,Tryz.ntmps21
  go_upto_region 1 with fail
  rw [<-HW0.out]
  go_wp2_with(go_at_call 17;refine(kH kd sec A c w0 HKA.out HVA.out).mono ?_;rw [R0.out];rintro e w1 ⟨v1,rfl,hs,hb⟩;obtain⟨A1,c1,hv1⟩:=Bs.formL hs;subst hv1;have HS1:=iH hs;have HB1:=iH hb;clear hs hb)
  go_ret2
  exact EB.no0 R.out (HB0.out.trans (HB1.out.mono HB0.out.size))
theorem Jj(l:List UInt8)(h:7<=l.length)(v:Value)(w:World)(hv:Bs w w.heap.size v l):
 Calls Tryz.prog 58 #[v] w fun e w'=>e=.returned (.int .i64 (xH (l.take 7)))/\w'=w:=by
 obtain⟨A,c,rfl⟩:=Bs.formL hv
 have hc:=(show l.length<=c by obtain⟨a,c',e,q1,_⟩:=hv;obtain⟨_,_,hc⟩:=Value.slice.inj e;omega)
 have hc9:=(show c<=9223372036854775807 by obtain⟨a,c',e,_,q2,_⟩:=hv;obtain⟨_,_,hc⟩:=Value.slice.inj e;omega)
 obtain⟨z,hz,hz9,hq⟩:=j07 l h
 have HC:=iH (BsS.cut hv (k:=7) (d:=c) h (by omega) hc9)
 have HZ:=iH hz;have HQ:=iH hq
 clear hv hz hq
 go_enter Tryz.func58,Tryz.ntmps58
 go_wp2_with(go_at_call 118;refine(KC _ _ _ w HC.out).mono ?_;rw [HQ.out];rintro e w' ⟨rfl,hw'⟩;rw [hw'];clear hw' w')
 go_ret
 exact⟨by rw [HZ.out]<;>rfl,rfl⟩
theorem Xt(k x:Int)(h:okS k=false)(w:World):Calls Tryz.prog 56 #[.int .i64 k,.int .i64 x] w fun e w'=>e=.returned (.tuple #[.int .i64 0,.int .i64 3])/\w'=w:=by
 have H:=iH h
 clear h
 go_enter Tryz.func56,Tryz.ntmps56
 go_wp2_with(first
  |(go_at_call 114;refine(qR k w).mono ?_;rw [H.out];rintro e w' ⟨rfl,hw'⟩;rw [hw'];clear hw' w'))
 go_ret2
 exact⟨rfl,rfl⟩
theorem KS(k x:Int)(h:(okS k=true/\jx x=false))(w:World):Calls Tryz.prog 56 #[.int .i64 k,.int .i64 x] w fun e w'=>e=.returned (.tuple #[.int .i64 0,.int .i64 10])/\w'=w:=by
 have H:=iH h
 clear h
 go_enter Tryz.func56,Tryz.ntmps56
 go_wp2_with(first
  |(go_at_call 114;refine(qR k w).mono ?_;rw [H.out.1];rintro e w' ⟨rfl,hw'⟩;rw [hw'];clear hw' w')
  |(go_at_call 115;refine(jT x w).mono ?_;rw [H.out.2];rintro e w' ⟨rfl,hw'⟩;rw [hw'];clear hw' w'))
 go_ret2
 exact⟨rfl,rfl⟩
theorem Q7(k x:Int)(h:okS k=false)(w:World):Calls Tryz.prog 60 #[.int .i64 k,.int .i64 x] w fun e w'=>e=.returned (.tuple #[.int .i64 0,.int .i64 3])/\w'=w:=by
 have H:=iH h
 clear h
 go_enter Tryz.func60,Tryz.ntmps60
 go_wp2_with(first
  |(go_at_call 119;refine(qn k w).mono ?_;rw [H.out];rintro e w' ⟨rfl,hw'⟩;rw [hw'];clear hw' w'))
 go_ret2
 exact⟨rfl,rfl⟩
theorem Kq(k x:Int)(h:(okS k=true/\jx x=false))(w:World):Calls Tryz.prog 60 #[.int .i64 k,.int .i64 x] w fun e w'=>e=.returned (.tuple #[.int .i64 0,.int .i64 10])/\w'=w:=by
 have H:=iH h
 clear h
 go_enter Tryz.func60,Tryz.ntmps60
 go_wp2_with(first
  |(go_at_call 119;refine(qn k w).mono ?_;rw [H.out.1];rintro e w' ⟨rfl,hw'⟩;rw [hw'];clear hw' w')
  |(go_at_call 29;refine(zM x w).mono ?_;rw [H.out.2];rintro e w' ⟨rfl,hw'⟩;rw [hw'];clear hw' w'))
 go_ret2
 exact⟨rfl,rfl⟩
theorem zw(n:List UInt8)(v:Value)(k o:Int)(w:World)(hv:Bs w w.heap.size v n):
 Calls Tryz.prog 23 #[v,.int .i64 k,.int .i64 o] w fun e w'=>e=.returned (.tuple #[.int .i64 (qJ n k o).2,.int .i64 (qJ n k o).1])/\w'=w:=by
 obtain⟨A,c,rfl⟩:=Bs.formL hv
 have HV:=iH hv
 clear hv
 by_cases hl:n.length=16
 ·have t1:((n.length:Int) != 16)=false:=by simp;omega
  have HL:=iH hl
  rcases hk:okS k with _|_
  ·have R:Hid (qJ n k o=(3,0)):=iH (by unfold qJ;rw [iF (fun h=>h hl),iT hk])
   have HSH:=iH (Xt k o hk)
   clear hl hk
   go_enter Tryz.func23,Tryz.ntmps23
   go_wp2_with(go_at_call 56;refine(HSH.out w).mono ?_;rintro e w' ⟨rfl,hw'⟩;rw [hw'];clear hw' w')
   go_ret2
   rw [R.out]
   exact⟨rfl,rfl⟩
  rcases ho:jx o with _|_
  ·have R:Hid (qJ n k o=(10,0)):=iH (by unfold qJ;rw [iF (fun h=>h hl),iF (by rw [hk];simp),iT ho])
   have HSH:=iH (KS k o ⟨hk,ho⟩)
   clear hl hk ho
   go_enter Tryz.func23,Tryz.ntmps23
   go_wp2_with(go_at_call 56;refine(HSH.out w).mono ?_;rintro e w' ⟨rfl,hw'⟩;rw [hw'];clear hw' w')
   go_ret2
   rw [R.out]
   exact⟨rfl,rfl⟩
  have hki:=ZV hk
  have hoi:=kO ho
  obtain⟨kn,rfl⟩:∃a:Nat,k=a:=⟨k.toNat,by omega⟩
  obtain⟨on,rfl⟩:∃a:Nat,o=a:=⟨o.toNat,by omega⟩
  have HSH:=iH (KQ kn on (by omega) (by omega) ho)
  obtain⟨z,hz,hz9,_⟩:=j07 n (by omega)
  obtain⟨p,hp4⟩:∃p,gpw 64 1 4 (z % 1073741789)=p:=⟨_,rfl⟩
  obtain⟨q,hq4⟩:∃q,gpw 64 1 on kn=q:=⟨_,rfl⟩
  have hq0:0<q/\q<2147483579:=by
   have h:=kO (xe on kn ho hk)
   rw [show zZ on kn=((gpw 64 1 on kn:Nat):Int) from rfl,hq4]at h
   omega
  have hp0:0<p:=by
   by_cases h0:z % 1073741789=0
   ·rw [h0,xg]at hp4;omega
   ·have h:=kO (xe 4 (z % 1073741789:Nat) JV (by unfold okS;exact decide_eq_true (by omega)))
    rw [show zZ 4 ((z % 1073741789:Nat):Int)=((gpw 64 1 4 (z % 1073741789):Nat):Int) from rfl,hp4]at h
    omega
  have hp9:p<2147483579:=by rw [<-hp4];exact QE 64 1 4 _ (by decide)
  have hq9:q<2147483579:=hq0.2
  have hG:j05 n kn on=((p*q % 2147483579:Nat):Int):=by
   unfold j05
   rw [hz,show zZ on kn=((gpw 64 1 on kn:Nat):Int) from rfl,hq4,show(z:Int) % 1073741789=((z % 1073741789:Nat):Int)by omega,show zZ 4 ((z % 1073741789:Nat):Int)=((gpw 64 1 4 (z % 1073741789):Nat):Int) from rfl,hp4]
   omega
  have HZ:=iH hz
  have HZM:Hid (xH (n.take 7) % (1073741789:Nat)=((z % 1073741789:Nat):Int)):=iH (by rw [hz];omega)
  have hpz:z % 1073741789<1073741789:=Nat.mod_lt _ (by decide)
  have hq1:=hq0.1
  rw [hq4]at HSH
  have HPW:=iH (Xs 4 (z % 1073741789) (by omega) (by omega) (by omega))
  rw [hp4]at HPW
  have HMU:=iH (QD p q (by omega) (by omega) (by omega) (by omega))
  have e1:=Q4 z 1073741789
  obtain⟨pq,hpq⟩:∃pq,p*q % 2147483579=pq:=⟨_,rfl⟩
  rw [hpq]at hG
  rw [hpq]at HMU
  by_cases h1:pq=1
  ·have R:Hid (qJ n kn on=(10,0)):=iH (by unfold qJ;rw [iF (fun h=>h hl),iF (by rw [hk];simp),iF (by rw [ho];simp),hG,iT (by omega)])
   subst h1
   clear hl hk ho hki hoi hz hp4 hq4 hq0 hp0 hG hq1 hpq
   go_enter Tryz.func23,Tryz.ntmps23
   go_wp2_with(first
    |(go_at_call 59;refine(HMU.out w).mono ?_;rintro e w' ⟨rfl,hw'⟩;rw [hw'];clear hw' w')
    |(go_at_call 57;refine(HPW.out w).mono ?_;rintro e w' ⟨rfl,hw'⟩;rw [hw'];clear hw' w')
    |(go_at_call 58;refine(Jj n (by rw [HL.out];omega) _ w HV.out).mono ?_;rw [HZ.out];rintro e w' ⟨rfl,hw'⟩;rw [hw'];clear hw' w')
    |(go_at_call 56;refine(HSH.out w).mono ?_;rintro e w' ⟨rfl,hw'⟩;rw [hw'];clear hw' w'))
   go_ret2
   rw [R.out]
   exact⟨rfl,rfl⟩
  ·have R:Hid (qJ n kn on=(0,(pq:Int))):=iH (by unfold qJ;rw [iF (fun h=>h hl),iF (by rw [hk];simp),iF (by rw [ho];simp),hG,iF (by omega)])
   have t2:((pq:Int)==1)=false:=by simp;omega
   clear hl hk ho hki hoi hz hp4 hq4 hq0 hp0 hG hq1 hpq h1
   go_enter Tryz.func23,Tryz.ntmps23
   go_wp2_with(first
    |(go_at_call 59;refine(HMU.out w).mono ?_;rintro e w' ⟨rfl,hw'⟩;rw [hw'];clear hw' w')
    |(go_at_call 57;refine(HPW.out w).mono ?_;rintro e w' ⟨rfl,hw'⟩;rw [hw'];clear hw' w')
    |(go_at_call 58;refine(Jj n (by rw [HL.out];omega) _ w HV.out).mono ?_;rw [HZ.out];rintro e w' ⟨rfl,hw'⟩;rw [hw'];clear hw' w')
    |(go_at_call 56;refine(HSH.out w).mono ?_;rintro e w' ⟨rfl,hw'⟩;rw [hw'];clear hw' w'))
   go_ret2
   rw [R.out]
   exact⟨rfl,rfl⟩
 ·have R:Hid (qJ n k o=(2,0)):=iH (by unfold qJ;rw [iT hl])
  have t1:((n.length:Int) != 16)=true:=by simp;omega
  clear hl
  go_enter Tryz.func23,Tryz.ntmps23
  go_wp2_with fail
  go_ret2
  rw [R.out]
  exact⟨rfl,rfl⟩
theorem xU(n:List UInt8)(v:Value)(k o:Int)(w:World)(hv:Bs w w.heap.size v n):
 Calls Tryz.prog 24 #[v,.int .i64 k,.int .i64 o] w fun e w'=>e=.returned (.tuple #[.int .i64 (qJ n k o).2,.int .i64 (qJ n k o).1])/\w'=w:=by
 obtain⟨A,c,rfl⟩:=Bs.formL hv
 have HV:=iH hv
 clear hv
 by_cases hl:n.length=16
 ·have t1:((n.length:Int) != 16)=false:=by simp;omega
  have HL:=iH hl
  rcases hk:okS k with _|_
  ·have R:Hid (qJ n k o=(3,0)):=iH (by unfold qJ;rw [iF (fun h=>h hl),iT hk])
   have HSH:=iH (Q7 k o hk)
   clear hl hk
   go_enter Tryz.func24,Tryz.ntmps24
   go_wp2_with(go_at_call 60;refine(HSH.out w).mono ?_;rintro e w' ⟨rfl,hw'⟩;rw [hw'];clear hw' w')
   go_ret2
   rw [R.out]
   exact⟨rfl,rfl⟩
  rcases ho:jx o with _|_
  ·have R:Hid (qJ n k o=(10,0)):=iH (by unfold qJ;rw [iF (fun h=>h hl),iF (by rw [hk];simp),iT ho])
   have HSH:=iH (Kq k o ⟨hk,ho⟩)
   clear hl hk ho
   go_enter Tryz.func24,Tryz.ntmps24
   go_wp2_with(go_at_call 60;refine(HSH.out w).mono ?_;rintro e w' ⟨rfl,hw'⟩;rw [hw'];clear hw' w')
   go_ret2
   rw [R.out]
   exact⟨rfl,rfl⟩
  have hki:=ZV hk
  have hoi:=kO ho
  obtain⟨kn,rfl⟩:∃a:Nat,k=a:=⟨k.toNat,by omega⟩
  obtain⟨on,rfl⟩:∃a:Nat,o=a:=⟨o.toNat,by omega⟩
  have HSH:=iH (Kp kn on (by omega) (by omega) ho)
  obtain⟨z,hz,hz9,_⟩:=j07 n (by omega)
  obtain⟨p,hp4⟩:∃p,gpw 64 1 4 (z % 1073741789)=p:=⟨_,rfl⟩
  obtain⟨q,hq4⟩:∃q,gpw 64 1 on kn=q:=⟨_,rfl⟩
  have hq0:0<q/\q<2147483579:=by
   have h:=kO (xe on kn ho hk)
   rw [show zZ on kn=((gpw 64 1 on kn:Nat):Int) from rfl,hq4]at h
   omega
  have hp0:0<p:=by
   by_cases h0:z % 1073741789=0
   ·rw [h0,xg]at hp4;omega
   ·have h:=kO (xe 4 (z % 1073741789:Nat) JV (by unfold okS;exact decide_eq_true (by omega)))
    rw [show zZ 4 ((z % 1073741789:Nat):Int)=((gpw 64 1 4 (z % 1073741789):Nat):Int) from rfl,hp4]at h
    omega
  have hp9:p<2147483579:=by rw [<-hp4];exact QE 64 1 4 _ (by decide)
  have hq9:q<2147483579:=hq0.2
  have hG:j05 n kn on=((p*q % 2147483579:Nat):Int):=by
   unfold j05
   rw [hz,show zZ on kn=((gpw 64 1 on kn:Nat):Int) from rfl,hq4,show(z:Int) % 1073741789=((z % 1073741789:Nat):Int)by omega,show zZ 4 ((z % 1073741789:Nat):Int)=((gpw 64 1 4 (z % 1073741789):Nat):Int) from rfl,hp4]
   omega
  have HZ:=iH hz
  have HZM:Hid (xH (n.take 7) % (1073741789:Nat)=((z % 1073741789:Nat):Int)):=iH (by rw [hz];omega)
  have hpz:z % 1073741789<1073741789:=Nat.mod_lt _ (by decide)
  have hq1:=hq0.1
  rw [hq4]at HSH
  have HPW:=iH (fun w=>zk 4 (z % 1073741789) w (by omega) (by omega))
  rw [hp4]at HPW
  have HM:=iH (zA hp9 hq9)
  obtain⟨pq,hpq⟩:∃pq,p*q % 2147483579=pq:=⟨_,rfl⟩
  rw [hpq]at hG
  rw [hpq]at HM
  by_cases h1:pq=1
  ·have R:Hid (qJ n kn on=(10,0)):=iH (by unfold qJ;rw [iF (fun h=>h hl),iF (by rw [hk];simp),iF (by rw [ho];simp),hG,iT (by omega)])
   subst h1
   have hmm:=HM.out
   clear hl hk ho hki hoi hz hp4 hq4 hq0 hp0 hG hq1 hpq
   go_enter Tryz.func24,Tryz.ntmps24
   go_wp2_with(first
    |(go_at_call 61;refine(HPW.out w).mono ?_;rintro e w' ⟨rfl,hw'⟩;rw [hw'];clear hw' w')
    |(go_at_call 62;refine(zO n (by rw [HL.out];omega) 1073741789 (by omega) (by omega) _ w HV.out).mono ?_;rw [HZM.out];rintro e w' ⟨rfl,hw'⟩;rw [hw'];clear hw' w')
    |(go_at_call 60;refine(HSH.out w).mono ?_;rintro e w' ⟨rfl,hw'⟩;rw [hw'];clear hw' w'))
   go_ret2
   rw [R.out]
   exact⟨rfl,rfl⟩
  ·have R:Hid (qJ n kn on=(0,(pq:Int))):=iH (by unfold qJ;rw [iF (fun h=>h hl),iF (by rw [hk];simp),iF (by rw [ho];simp),hG,iF (by omega)])
   have t2:((pq:Int)==1)=false:=by simp;omega
   have hmm:=HM.out
   clear hl hk ho hki hoi hz hp4 hq4 hq0 hp0 hG hq1 hpq h1
   go_enter Tryz.func24,Tryz.ntmps24
   go_wp2_with(first
    |(go_at_call 61;refine(HPW.out w).mono ?_;rintro e w' ⟨rfl,hw'⟩;rw [hw'];clear hw' w')
    |(go_at_call 62;refine(zO n (by rw [HL.out];omega) 1073741789 (by omega) (by omega) _ w HV.out).mono ?_;rw [HZM.out];rintro e w' ⟨rfl,hw'⟩;rw [hw'];clear hw' w')
    |(go_at_call 60;refine(HSH.out w).mono ?_;rintro e w' ⟨rfl,hw'⟩;rw [hw'];clear hw' w'))
   go_ret2
   rw [R.out]
   exact⟨rfl,rfl⟩
 ·have R:Hid (qJ n k o=(2,0)):=iH (by unfold qJ;rw [iT hl])
  have t1:((n.length:Int) != 16)=true:=by simp;omega
  clear hl
  go_enter Tryz.func24,Tryz.ntmps24
  go_wp2_with fail
  go_ret2
  rw [R.out]
  exact⟨rfl,rfl⟩
theorem K0(n r:List UInt8)(v u:Value)(w:World)(hK:KD w)(hv:Bs w w.heap.size v n)(hu:Bs w w.heap.size u r):
 Calls Tryz.prog 27 #[v,u] w fun e w'=>e=.returned (.tuple #[.int .i64 (yb n r).2,.int .i64 (yb n r).1])/\Below w.heap.size w w':=by
 obtain⟨A,c,rfl⟩:=Bs.formL hv
 obtain⟨B,d,rfl⟩:=Bs.formL hu
 have HV:=iH hv;have HR:=iH hu;have HK:=iH hK
 clear hv hu hK
 by_cases hl:n.length=16
 ·have t1:((n.length:Int) != 16)=false:=by simp;omega
  by_cases hr:r.length=16
  ·have t2:((r.length:Int) != 16)=false:=by simp;omega
   obtain⟨z,hz,hz9,_⟩:=j07 (qK (n++r)) (by rw [ji];omega)
   obtain⟨x,hx⟩:∃x:Nat,x=2+z % 2147483576:=⟨_,rfl⟩
   have hi:QG n r=x:=by unfold QG;rw [hz];omega
   obtain⟨y,hxx⟩:∃y,x*x % 2147483579=y:=⟨_,rfl⟩
   have R:Hid (yb n r=(0,(y:Int))):=iH (by unfold yb;rw [iF (by simp [hl,hr]),hi];refine Prod.ext rfl ?_;show(x:Int)*x % 2147483579=y;omega)
   have HZ:=iH hz;have HLN:=iH hl;have HLR:=iH hr
   have HZM:Hid (xH ((qK (n++r)).take 7) % (2147483576:Nat)=((z % 2147483576:Nat):Int)):=iH (by rw [hz];omega)
   obtain⟨w1,hw1⟩:∃w1,w1=w.alloc (.cells #[.slice A n.length c,.slice B r.length d] 22):=⟨_,rfl⟩
   have HB1:Hid (Below w.heap.size w w1):=iH (by rw [hw1];exact jq _ _)
   have hh:w1.heap[w.heap.size]?=some (.cells #[.slice A n.length c,.slice B r.length d] 22 (0,0)):=by rw [hw1];exact iN
   have e:zt [(Value.slice A n.length c,n),(Value.slice B r.length d,r)]=n++r:=by simp [zt]
   have HC:=iH (yq [(Value.slice A n.length c,n),(Value.slice B r.length d,r)] w.heap.size (·<w.heap.size) w1 22 hh (by
    intro p hp
    simp only [List.mem_cons,List.not_mem_nil,or_false]at hp
    rcases hp with rfl|rfl
    ·exact BsS.keep HV.out fun g hs hl=>⟨HB1.out.block g hl,hs⟩
    ·exact BsS.keep HR.out fun g hs hl=>⟨HB1.out.block g hl,hs⟩) (by rw [e,List.length_append];omega) (by simp))
   rw [e]at HC
   have HW1:=iH hw1
   have HMU:=iH (QD x x (by omega) (by omega) (by omega) (by omega))
   have e1:=Q4 z 2147483576
   rw [hxx]at HMU
   clear hw1 hh e
   subst hx
   clear hz hl hr hi hxx
   go_enter Tryz.func27,Tryz.ntmps27
   go_wp2_with(first
   |(go_at_call 59;refine(HMU.out w3).mono ?_;rintro e w' ⟨rfl,hw'⟩;rw [hw'];clear hw' w')
   |(go_at_call 58;refine(Jj (qK (n++r)) (by rw [ji];omega) _ w3 HS3.out).mono ?_;rw [HZ.out];rintro e w' ⟨rfl,hw'⟩;rw [hw'];clear hw' w')
   |(go_at_call 46;refine(Ql _ (n++r) (by have h1:=HLN.out;have h2:=HLR.out;rw [List.length_append];omega) w2 (HK.out.below HB2.out HK.out.lt) HS2.out).mono ?_;rintro e w3 ⟨v3,rfl,hs,hb⟩;have HS3:Hid (Bs w3 w3.heap.size v3 (qK (n++r))):=iH (BsS.keep hs fun g hg _=>⟨rfl,hg.2⟩);have HB3:=iH (HB2.out.trans (hb.mono HB2.out.size));clear hs hb)
   |(go_at_call 63;rw [<-HW1.out];refine HC.out.mono ?_;rintro e w2 ⟨v2,rfl,ho,hb2⟩;have HS2:Hid (Bs w2 w2.heap.size v2 (n++r)):=iH (ho.bs (by have h1:=HLN.out;have h2:=HLR.out;rw [List.length_append];omega));have HB2:Hid (Below w.heap.size w w2):=iH (HB1.out.trans (hb2.mono HB1.out.size));clear ho hb2))
   go_ret2
   rw [R.out]
   exact⟨rfl,HB3.out⟩
  ·have R:Hid (yb n r=(2,0)):=iH (by unfold yb;rw [iT (fun h=>hr h.2)])
   have t2:((r.length:Int) != 16)=true:=by simp;omega
   clear hl hr
   go_enter Tryz.func27,Tryz.ntmps27
   go_wp2_with fail
   go_ret2
   rw [R.out]
   exact⟨rfl,Below.refl _ _⟩
 ·have R:Hid (yb n r=(2,0)):=iH (by unfold yb;rw [iT (fun h=>hl h.1)])
  have t1:((n.length:Int) != 16)=true:=by simp;omega
  clear hl
  go_enter Tryz.func27,Tryz.ntmps27
  go_wp2_with fail
  go_ret2
  rw [R.out]
  exact⟨rfl,Below.refl _ _⟩
theorem XN(n r:List UInt8)(v u:Value)(w:World)(hK:KR w)(hv:Bs w w.heap.size v n)(hu:Bs w w.heap.size u r):
 Calls Tryz.prog 28 #[v,u] w fun e w'=>e=.returned (.tuple #[.int .i64 (yb n r).2,.int .i64 (yb n r).1])/\Below w.heap.size w w':=by
 obtain⟨A,c,rfl⟩:=Bs.formL hv
 obtain⟨B,d,rfl⟩:=Bs.formL hu
 have HV:=iH hv;have HR:=iH hu;have HK:=iH hK
 clear hv hu hK
 by_cases hl:n.length=16
 ·have t1:((n.length:Int) != 16)=false:=by simp;omega
  by_cases hr:r.length=16
  ·have t2:((r.length:Int) != 16)=false:=by simp;omega
   obtain⟨z,hz,hz9,_⟩:=j07 (qK (n++r)) (by rw [ji];omega)
   obtain⟨x,hx⟩:∃x:Nat,x=2+z % 2147483576:=⟨_,rfl⟩
   have hi:QG n r=x:=by unfold QG;rw [hz];omega
   obtain⟨y,hxx⟩:∃y,x*x % 2147483579=y:=⟨_,rfl⟩
   have R:Hid (yb n r=(0,(y:Int))):=iH (by unfold yb;rw [iF (by simp [hl,hr]),hi];refine Prod.ext rfl ?_;show(x:Int)*x % 2147483579=y;omega)
   have HZ:=iH hz;have HLN:=iH hl;have HLR:=iH hr
   have HZM:Hid (xH ((qK (n++r)).take 7) % (2147483576:Nat)=((z % 2147483576:Nat):Int)):=iH (by rw [hz];omega)
   have HM:=iH (zA (show x<2147483579 by omega) (show x<2147483579 by omega))
   rw [hxx,hx]at HM
   subst hx
   clear hz hl hr hi hxx
   go_enter Tryz.func28,Tryz.ntmps28
   go_wp2_with(first
   |(go_at_call 62;refine(zO (qK (n++r)) (by rw [ji];omega) 2147483576 (by omega) (by omega) _ w3 HS3.out).mono ?_;rw [HZM.out];rintro e w' ⟨rfl,hw'⟩;rw [hw'];clear hw' w')
   |(go_at_call 49;refine(Jr _ (n++r) (by have h1:=HLN.out;have h2:=HLR.out;rw [List.length_append];omega) w2 (HK.out.below HB2.out HK.out.lt) HS2.out).mono ?_;rintro e w3 ⟨v3,rfl,hs,hb⟩;have HS3:Hid (Bs w3 w3.heap.size v3 (qK (n++r))):=iH (BsS.keep hs fun g hg _=>⟨rfl,hg.2⟩);have HB3:=iH (HB2.out.trans (hb.mono HB2.out.size));clear hs hb)
   |(go_at_call 64;refine(QH _ _ n r _ _ w HV.out HR.out (by have h1:=HLN.out;have h2:=HLR.out;omega)).mono ?_;rintro e w2 ⟨v2,rfl,ho,hb2⟩;have HS2:Hid (Bs w2 w2.heap.size v2 (n++r)):=iH (ho.bs (by have h1:=HLN.out;have h2:=HLR.out;rw [List.length_append];omega));have HB2:Hid (Below w.heap.size w w2):=iH hb2;clear ho hb2))
   go_ret2
   rw [R.out]
   refine⟨?_,HB3.out⟩
   have e:=HM.out
   rw [show(((2+z % 2147483576:Nat)):Int)=2+(z:Int) % 2147483576 by omega]at e
   show Ending.returned (.tuple #[.int .i64 ((wrap64 ((2+(z:Int) % 2147483576)*(2+(z:Int) % 2147483576))).tmod 2147483579),.int .i64 0])=_
   rw [e]
  ·have R:Hid (yb n r=(2,0)):=iH (by unfold yb;rw [iT (fun h=>hr h.2)])
   have t2:((r.length:Int) != 16)=true:=by simp;omega
   clear hl hr
   go_enter Tryz.func28,Tryz.ntmps28
   go_wp2_with fail
   go_ret2
   rw [R.out]
   exact⟨rfl,Below.refl _ _⟩
 ·have R:Hid (yb n r=(2,0)):=iH (by unfold yb;rw [iT (fun h=>hl h.1)])
  have t1:((n.length:Int) != 16)=true:=by simp;omega
  clear hl
  go_enter Tryz.func28,Tryz.ntmps28
  go_wp2_with fail
  go_ret2
  rw [R.out]
  exact⟨rfl,Below.refl _ _⟩
theorem Vi(P:Nat)(X:Exg)(sA nA aA bA:Option Addr)(sc nc ac bc:Nat)(vA eA:Option Addr)(vc ec:Nat)(v s:List UInt8)(w:World)(hK:∀W,Below P w W->KD W)(hr:w.heap[P]?=some (.cells #[.int .i64 X.kd,.slice sA X.sec.length sc,.int .i64 X.pr,.int .i64 X.st,.slice nA X.non.length nc,.int .i64 X.x,.int .i64 X.g,.int .i64 X.own,.int .i64 X.oth,.slice aA X.k1.length ac,.slice bA X.k2.length bc,.int .i64 X.ct] 48 (0,0)))(h1:BsS w (jL P w) (.slice sA X.sec.length sc) X.sec)(h2:BsS w (jL P w) (.slice nA X.non.length nc) X.non)(h3:BsS w (jL P w) (.slice aA X.k1.length ac) X.k1)(h4:BsS w (jL P w) (.slice bA X.k2.length bc) X.k2)(h5:BsS w (jL P w) (.slice vA v.length vc) v)(h6:BsS w (jL P w) (.slice eA s.length ec) s)(hl:s.length<=140737488351232):
 Calls Tryz.prog 89 #[.pointer (some ⟨P,0,none⟩),.slice vA v.length vc,.slice eA s.length ec] w (Vg P w (-1) X [] s):=by
 have HP0:Hid (PtW P w w #[.int .i64 X.kd,.slice sA X.sec.length sc,.int .i64 X.pr,.int .i64 X.st,.slice nA X.non.length nc,.int .i64 X.x,.int .i64 X.g,.int .i64 X.own,.int .i64 X.oth,.slice aA X.k1.length ac,.slice bA X.k2.length bc,.int .i64 X.ct]):=iH (PtW.start hr)
 have HK:=iH hK;have Gs0:=iH h1;have Gn0:=iH h2;have Ga0:=iH h3;have Gb0:=iH h4;have Gv0:=iH h5;have Ge0:=iH h6;have HL:=iH hl
 obtain⟨f0,f1,f2,f3,f4,f5,f6,f7,f8,f9,f10,f11,ff⟩:=jy hr
 clear hK hr h1 h2 h3 h4 h5 h6 hl
 go_enter Tryz.func89,Tryz.ntmps89
 go_wp2_with(go_at_call 67;refine(jr _ s w Ge0.out.loB).mono ?_;rintro e w1 ⟨v2,rfl,ho,hb⟩;obtain⟨cA,cc,hv2⟩:=OwnB.form ho;subst hv2;have HC:Hid (BsS w1 (jL P w1) (.slice cA s.length cc) s):=iH (BsS.madeB (OwnB.out ho (by have:=HL.out;omega) w iL) HP0.out.lt);have Gs1:=iH (Gs0.out.onB hb);have Gn1:=iH (Gn0.out.onB hb);have Ga1:=iH (Ga0.out.onB hb);have Gb1:=iH (Gb0.out.onB hb);have Gv1:=iH (Gv0.out.onB hb);have Ge1:=iH (Ge0.out.onB hb);have hp:=HP0.out.call hb;have HP1:=iH hp;obtain⟨g0,g1,g2,g3,g4,g5,g6,g7,g8,g9,g10,g11,gf⟩:=jy hp.1;clear hp f0 f1 f2 f3 f4 f5 f6 f7 f8 f9 f10 f11 ff;clear ho hb)
 refine bodyPost_ret (v:=.tuple #[.int .i64 (-1),.slice none 0 0,.slice cA s.length cc,.int .i64 0]) (by simp [results,Tryz.results89,go_sem]) rfl ?_
 exact⟨_,_,_,_,rfl,⟨_,_,_,_,_,_,_,_,HP1.out,Gs1.out,Gn1.out,Ga1.out,Gb1.out⟩,kh _ _,HC.out⟩
theorem yX(P:Nat)(X:Exg)(sA nA aA bA:Option Addr)(sc nc ac bc:Nat)(vA eA:Option Addr)(vc ec:Nat)(v s:List UInt8)(w:World)(hK:∀W,Below P w W->KD W)(hr:w.heap[P]?=some (.cells #[.int .i64 X.kd,.slice sA X.sec.length sc,.int .i64 X.pr,.int .i64 X.st,.slice nA X.non.length nc,.int .i64 X.x,.int .i64 X.g,.int .i64 X.own,.int .i64 X.oth,.slice aA X.k1.length ac,.slice bA X.k2.length bc,.int .i64 X.ct] 48 (0,0)))(h1:BsS w (jL P w) (.slice sA X.sec.length sc) X.sec)(h2:BsS w (jL P w) (.slice nA X.non.length nc) X.non)(h3:BsS w (jL P w) (.slice aA X.k1.length ac) X.k1)(h4:BsS w (jL P w) (.slice bA X.k2.length bc) X.k2)(h5:BsS w (jL P w) (.slice vA v.length vc) v)(h6:BsS w (jL P w) (.slice eA s.length ec) s)(hl:s.length<=140737488351232)(hp:vPw X.kd X.sec=true):
 Calls Tryz.prog 71 #[.pointer (some ⟨P,0,none⟩),.slice vA v.length vc,.slice eA s.length ec] w (Vg P w 128 {X with non:=k7 s 16} (kP X.kd X.sec (k7 s 16)).2 (sdW s)):=by
 obtain⟨N,hN⟩:∃N,k7 s 16=N:=⟨_,rfl⟩
 have hl16:N.length=16:=by rw [<-hN];unfold k7;rw [List.length_take,ji];omega
 rw [hN]
 have HD:=iH (U5 16 (by omega) (by omega) _ s w (hK w iB) h6.loB (by omega))
 rw [hN]at HD
 obtain⟨H,hH⟩:∃H,kP X.kd X.sec N=(0,H):=⟨_,by unfold kP;rw [iF (by rw [hp];simp),iF (by omega)]⟩
 have HH:Hid (∀(A:Option Addr) (c:Nat) (W:World),KD W->Bs W W.heap.size (.slice sA X.sec.length sc) X.sec->Bs W W.heap.size (.slice A 16 c) N->Calls Tryz.prog 18 #[.agg #[.int .i64 X.kd,.slice sA X.sec.length sc],.slice A 16 c] W (EB (0,H) W)):=iH (fun A c W k a b=>by
  have h:=QF X.kd X.sec sA sc N A c W k a (by rw [hl16];exact b)
  rw [hl16,hH]at h
  exact h)
 rw [hH]
 have HL16:=iH hl16
 clear hN hH hp hl16
 have HP0:Hid (PtW P w w #[.int .i64 X.kd,.slice sA X.sec.length sc,.int .i64 X.pr,.int .i64 X.st,.slice nA X.non.length nc,.int .i64 X.x,.int .i64 X.g,.int .i64 X.own,.int .i64 X.oth,.slice aA X.k1.length ac,.slice bA X.k2.length bc,.int .i64 X.ct]):=iH (PtW.start hr)
 have HK:=iH hK;have Gs0:=iH h1;have Gn0:=iH h2;have Ga0:=iH h3;have Gb0:=iH h4;have Gv0:=iH h5;have Ge0:=iH h6;have HL:=iH hl
 obtain⟨f0,f1,f2,f3,f4,f5,f6,f7,f8,f9,f10,f11,ff⟩:=jy hr
 clear hK hr h1 h2 h3 h4 h5 h6 hl
 go_enter Tryz.func71,Tryz.ntmps71
 go_upto_region 2 with (go_at_call 125;refine HD.out.mono ?_;rintro e w1 ⟨A1,c1,B1,d1,rfl,ha,hb,hbw⟩;have GN1:=iH (ha.madeB HP0.out.lt);have GX1:=iH (hb.madeB HP0.out.lt);have Gs1:=iH (Gs0.out.onB hbw);have Gn1:=iH (Gn0.out.onB hbw);have Ga1:=iH (Ga0.out.onB hbw);have Gb1:=iH (Gb0.out.onB hbw);have Gv1:=iH (Gv0.out.onB hbw);have Ge1:=iH (Ge0.out.onB hbw);have hp:=HP0.out.call hbw;have HP1:=iH hp;obtain⟨g0,g1,g2,g3,g4,g5,g6,g7,g8,g9,g10,g11,gf⟩:=jy hp.1;clear hp f0 f1 f2 f3 f4 f5 f6 f7 f8 f9 f10 f11 ff;clear ha hb hbw)
 have gx:=gf 4
 clear gf
 go_upto_region 3 with fail
 obtain⟨w2,hw⟩:∃z,z=w1.setCell ⟨P,4,none⟩ (.slice A1 16 c1):=⟨_,rfl⟩
 rw [<-hw]
 have hp:PtW P w w2 #[.int .i64 X.kd,.slice sA X.sec.length sc,.int .i64 X.pr,.int .i64 X.st,.slice A1 16 c1,.int .i64 X.x,.int .i64 X.g,.int .i64 X.own,.int .i64 X.oth,.slice aA X.k1.length ac,.slice bA X.k2.length bc,.int .i64 X.ct]:=by rw [hw];exact HP1.out.set 4 _
 have Gs2:Hid (BsS w2 (jL P w2) _ _):=iH (by rw [hw];exact BsS.setP Gs1.out 4 _)
 have Gn2:Hid (BsS w2 (jL P w2) _ _):=iH (by rw [hw];exact BsS.setP Gn1.out 4 _)
 have Ga2:Hid (BsS w2 (jL P w2) _ _):=iH (by rw [hw];exact BsS.setP Ga1.out 4 _)
 have Gb2:Hid (BsS w2 (jL P w2) _ _):=iH (by rw [hw];exact BsS.setP Gb1.out 4 _)
 have Gv2:Hid (BsS w2 (jL P w2) _ _):=iH (by rw [hw];exact BsS.setP Gv1.out 4 _)
 have Ge2:Hid (BsS w2 (jL P w2) _ _):=iH (by rw [hw];exact BsS.setP Ge1.out 4 _)
 have GN2:Hid (BsS w2 (jL P w2) _ _):=iH (by rw [hw];exact BsS.setP GN1.out 4 _)
 have GX2:Hid (BsS w2 (jL P w2) _ _):=iH (by rw [hw];exact BsS.setP GX1.out 4 _)
 have HP2:=iH hp
 obtain⟨f0,f1,f2,f3,f4,f5,f6,f7,f8,f9,f10,f11,ff⟩:=jy hp.1
 clear hw hp g0 g1 g2 g3 g4 g5 g6 g7 g8 g9 g10 g11 gx
 go_wp2_with(go_at_call 18;refine(HH.out A1 c1 w2 (HK.out w2 HP2.out.2.2) Gs2.out.loB GN2.out.loB).mono ?_;rintro e w3 ⟨v3,rfl,hs,hb⟩;obtain⟨A3,c3,hv3⟩:=Bs.formL hs;subst hv3;have GH:=iH (hs.madeB HP2.out.lt);have Gs3:=iH (Gs2.out.onB hb);have Gn3:=iH (Gn2.out.onB hb);have Ga3:=iH (Ga2.out.onB hb);have Gb3:=iH (Gb2.out.onB hb);have Gv3:=iH (Gv2.out.onB hb);have Ge3:=iH (Ge2.out.onB hb);have GN3:=iH (GN2.out.onB hb);have GX3:=iH (GX2.out.onB hb);have hp:=HP2.out.call hb;have HP3:=iH hp;obtain⟨g0,g1,g2,g3,g4,g5,g6,g7,g8,g9,g10,g11,gf⟩:=jy hp.1;clear hp f0 f1 f2 f3 f4 f5 f6 f7 f8 f9 f10 f11 ff;clear hs hb)
 refine bodyPost_ret (v:=.tuple #[.int .i64 128,.slice A3 H.length c3,.slice B1 32 d1,.int .i64 0]) (by simp [results,Tryz.results71,go_sem]) rfl ?_
 have q3:=HP3.out
 rw [<-HL16.out]at q3
 have n3:BsS w3 (jL P w3) (.slice A1 N.length c1) N:=by rw [HL16.out];exact GN3.out
 have hx:(sdW s).length=32:=ji _
 have x3:BsS w3 (jL P w3) (.slice B1 (sdW s).length d1) (sdW s):=by rw [hx];exact GX3.out
 exact⟨_,_,B1,d1,by rw [hx],⟨_,_,_,_,_,_,_,_,q3,Gs3.out,n3,Ga3.out,Gb3.out⟩,GH.out,x3⟩
end Go.Proofs.YtalmmiojbmpmiaaGreatDoor
