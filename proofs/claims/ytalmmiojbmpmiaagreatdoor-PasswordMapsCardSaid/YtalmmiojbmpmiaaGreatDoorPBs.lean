/- Layer 21: a secret and an element that are made of any number; Layer 21: PasswordMaps -/
import Derived.Test.YtalmmiojbmpmiaaGreatDoorPBr
set_option linter.all false
set_option maxRecDepth 100000
set_option maxHeartbeats 8000000
namespace Go.Proofs.YtalmmiojbmpmiaaGreatDoor
open Go.RowKit Go.Deep
theorem Yv(a:Int): -1073741788<a.tmod 1073741788/\a.tmod 1073741788<1073741788:=by
 rcases Int.le_total 0 a with h|h
 ·rw [Int.tmod_eq_emod_of_nonneg h];omega
 ·obtain⟨b,rfl⟩:∃b,a= -b:=⟨-a,by omega⟩
  rw [Int.neg_tmod,Int.tmod_eq_emod_of_nonneg (by omega)];omega
def yg(a:Int):Int:=1+(if a.tmod 1073741788<0 then a.tmod 1073741788+1073741788 else a.tmod 1073741788)
theorem Ut(a:Int):1<=yg a/\yg a<1073741789:=by
 have:=Yv a
 unfold yg
 split<;>omega
theorem QL(a:Int)(w:World):Calls Tryz.prog 25 #[.int .i64 a] w fun e w'=>e=.returned (.int .i64 (yg a))/\w'=w:=by
 have hb:=Yv a
 have hr:yg a=1+(if a.tmod 1073741788<0 then a.tmod 1073741788+1073741788 else a.tmod 1073741788):=rfl
 obtain⟨r,hr2⟩:∃r,yg a=r:=⟨_,rfl⟩
 rw [hr2]at hr |-
 clear hr2
 obtain⟨t,ht⟩:∃t,a.tmod 1073741788=t:=⟨_,rfl⟩
 rw [ht]at hb hr
 by_cases h0:t<0
 ·rw [iT h0]at hr
  have HR:=iH hr
  clear hr
  go_enter Tryz.func25,Tryz.ntmps25
  go_wp2_with fail
  go_ret
  rw [HR.out]
  exact⟨by go_num,rfl⟩
 ·rw [iF h0]at hr
  have HR:=iH hr
  clear hr
  go_enter Tryz.func25,Tryz.ntmps25
  go_wp2_with fail
  go_ret
  rw [HR.out]
  exact⟨by go_num,rfl⟩
def QO(a:Int):Int:=zZ 4 (yg a)
theorem Y7(a:Int)(w:World):Calls Tryz.prog 26 #[.int .i64 a] w fun e w'=>e=.returned (.int .i64 (QO a))/\w'=w:=by
 have HN:=iH (QL a)
 have hi:=Ut a
 obtain⟨k,hk⟩:∃k:Nat,yg a=k:=⟨(yg a).toNat,by omega⟩
 have HP:Hid (QO a=(gpw 64 1 4 k:Nat)):=iH (by unfold QO zZ;rw [hk]<;>rfl)
 rw [hk]at HN hi
 clear hk
 go_enter Tryz.func26,Tryz.ntmps26
 go_wp2_with(first
  |(go_at_call 25;refine(HN.out _).mono ?_;rintro e w' ⟨rfl,hw⟩;rw [hw];clear hw w')
  |(go_at_call 61;refine(zk 4 k _ (by decide) (by omega)).mono ?_;rintro e w' ⟨rfl,hw⟩;rw [hw];clear hw w'))
 go_ret
 rw [HP.out]
 exact⟨rfl,rfl⟩
theorem xZ(vn:Value)(n:List UInt8)(nn:n.length<=140737488351232)(vr:Value)(r:List UInt8)(nr:r.length<=140737488351232)(a b:Int)(w:World)(hK:KR w/\KD w)(hn:Bs w w.heap.size vn n)(hr:Bs w w.heap.size vr r):
 Calls Tryz.prog 4 #[vn,vr,.agg #[.int .i64 a,.int .i64 b]] w fun e w'=>e=.returned (.bool true)/\Below w.heap.size w w':=by
 obtain⟨w0,hw0⟩:∃w0,w0=w.alloc (.cells #[.int .i64 a,.int .i64 b] 39):=⟨_,rfl⟩
 have hb0:Below w.heap.size w w0:=by rw [hw0];exact iA
 obtain⟨c0,c1,_⟩:=two (show w0.heap[w.heap.size]?=some (.cells #[.int .i64 a,.int .i64 b] 39 (0,0))by rw [hw0];exact iN)
 obtain⟨A,N,c,rfl⟩:=hn.form
 obtain⟨rfl,_⟩:=hn.src
 obtain⟨B,M,d,rfl⟩:=hr.form
 obtain⟨rfl,_⟩:=hr.src
 have HW0:=iH hw0;have HB0:=iH hb0;have HK:=iH hK;have HN:=iH hn;have HR:=iH hr;have Hlen:=iH nn
 clear hw0 hb0 hK hn hr nn nr
 go_enter Tryz.func4,Tryz.ntmps4
 go_upto_region 1 with fail
 rw [<-HW0.out]
 go_quiet (fail)
 obtain⟨wr,hwr⟩:∃wr,wr=w0.drewN nq:=⟨_,rfl⟩
 rw [<-hwr]
 have HBR:Hid (Below w.heap.size w wr):=iH (by rw [hwr];exact jh HB0.out nq)
 clear hwr c0 c1 HB0
 have Hsrc:=iH (HN.out.lift HBR.out).src.2
 have h0:wr.ownsRow wr.heap.size 5 1 (.slice none 0 0) 0 []:=World.ownsRow_nil _ _ _ _
 go_upto_region 3 with (first
  |(at_builtin
    (with_reducible refine jk _ rfl (.const (.slice none 0 0)) (.tmp 28) 22 rfl wr.heap.size 5 (.int .u8 0) 1 Tryz.underlying22 ki rfl (by omega) (.slice none 0 0) 0 [] rfl h0 A n.length c (n.map U8) rfl Hsrc.out (by have:=Hlen.out;omega) iL ?_)
    intro v1 w1 hown1 hg1 _ _
    have hb1:=jb h0 hg1 iL iL
    obtain⟨v2,w2,hrun2,hown2,hg2⟩:=j01 hown1 (by have:=Hlen.out;omega) hb1.size 22
    have hb2:=hb1.trans (jb hown1 hg2 iL hb1.size)
    obtain⟨g2,cap2,rfl,hg2a,hg2b⟩:=hown2.form (by omega)
    have Hown2:=iH hown2;have Hb2:=iH hb2;have Hrun2:=iH hrun2
    have hcap:(16:Int)<=cap2:=by have:=(Q1 hown2).1;omega
    clear hown1 hg1 hb1 hrun2 hown2 hg2 hb2)
  |(at_builtin
    (with_reducible refine Lib.wpList_append_run _ rfl (.tmp 29) (.const (.int .i64 16)) 22 3 rfl v1 (.int .i64 16) rfl rfl (.slice (some ⟨g2,0,none⟩) (0+n.length+16) cap2) w2 Hrun2.out ?_)))
 have hs6:BsS w2 (New wr w2) (.slice (some ⟨g2,0,none⟩) 16 cap2) (six n):=by
  refine⟨some ⟨g2,0,none⟩,cap2,by rw [zS],by rw [zS];omega,(Q1 Hown2.out).2,by rw [zS];omega,fun _=>⟨g2,0,rfl,⟨hg2a,hg2b⟩,fun j hj=> ?_⟩⟩
  rw [zS]at hj
  have:=Hown2.out.cells (g:=g2) rfl j _ (VQ n j hj)
  rwa [kJ]at this
 obtain⟨n6,hn6⟩:∃l,six n=l:=⟨_,rfl⟩
 have hl6:n6.length=16:=by rw [<-hn6];exact zS n
 rw [hn6]at hs6
 have HB2:=iH (HBR.out.trans (Hb2.out.mono HBR.out.size))
 have HS:Hid (Bs w2 w2.heap.size (.slice (some ⟨g2,0,none⟩) 16 cap2) n6):=iH (BsS.keep hs6 fun g hg _=>⟨rfl,hg.2⟩)
 have HN2:=iH (HN.out.lift HB2.out)
 have HR2:=iH (HR.out.lift HB2.out)
 have HL6:=iH hl6
 clear Hown2 Hb2 Hrun2 hcap hg2a hg2b hs6 hn6 hl6 Hsrc h0 Hlen HBR HW0
 obtain⟨⟨e1,x1⟩,hg1⟩:∃q,qJ n a b=q:=⟨_,rfl⟩
 obtain⟨k,hk⟩:∃k,yg a=k:=⟨_,rfl⟩
 obtain⟨p,hp⟩:∃p,QO b=p:=⟨_,rfl⟩
 obtain⟨⟨e2,x2⟩,hg2⟩:∃q,qJ n6 k p=q:=⟨_,rfl⟩
 obtain⟨⟨e3,x3⟩,hi1⟩:∃q,yb n r=q:=⟨_,rfl⟩
 obtain⟨x4,hi2⟩:∃q,yb n6 n6=(0,q):=⟨_,by unfold yb;rw [iF (fun x=>x ⟨HL6.out,HL6.out⟩)]⟩
 have he4:jx x4=true:=by
  have h:=hi2
  unfold yb at h
  rw [iF (fun x=>x ⟨HL6.out,HL6.out⟩)]at h
  injection h with _ h
  rw [<-h]
  exact Uk n6 n6
 have G1:=iH (zw n _ a b w2 HN2.out)
 have G2:=iH (xU n _ a b w2 HN2.out)
 have G3:=iH (zw n6 _ k p w2 HS.out)
 have G4:=iH (xU n6 _ k p w2 HS.out)
 have N1:=iH (QL a w2)
 have P1:=iH (Y7 b w2)
 rw [hg1]at G1 G2
 rw [hg2]at G3 G4
 rw [hk]at N1
 rw [hp]at P1
 have HI1:=iH hi1;have HI2:=iH hi2;have HE4:=iH he4
 clear hg1 hk hp hg2 hi1 hi2 he4
 go_upto_region 4 with (go_at_call 23;refine G1.out.mono ?_;rintro e w' ⟨rfl,hw⟩;rw [hw];clear hw w')
 go_upto_region 5 with (go_at_call 24;refine G2.out.mono ?_;rintro e w' ⟨rfl,hw⟩;rw [hw];clear hw w')
 go_upto_region 6 with (first
  |(go_at_call 25;refine N1.out.mono ?_;rintro e w' ⟨rfl,hw⟩;rw [hw];clear hw w')
  |(go_at_call 26;refine P1.out.mono ?_;rintro e w' ⟨rfl,hw⟩;rw [hw];clear hw w')
  |(go_at_call 23;refine G3.out.mono ?_;rintro e w' ⟨rfl,hw⟩;rw [hw];clear hw w'))
 go_upto_region 7 with (first
  |(go_at_call 25;refine N1.out.mono ?_;rintro e w' ⟨rfl,hw⟩;rw [hw];clear hw w')
  |(go_at_call 26;refine P1.out.mono ?_;rintro e w' ⟨rfl,hw⟩;rw [hw];clear hw w')
  |(go_at_call 24;refine G4.out.mono ?_;rintro e w' ⟨rfl,hw⟩;rw [hw];clear hw w'))
 clear G1 G2 G3 G4 N1 P1
 go_upto_region 8 with (go_at_call 27;refine(K0 n r _ _ w2 (HK.out.2.below HB2.out HK.out.2.lt) HN2.out HR2.out).mono ?_;rw [HI1.out];rintro e w3 ⟨rfl,hb⟩;have HB3:=iH hb;have HN3:=iH (HN2.out.lift hb);have HR3:=iH (HR2.out.lift hb);have HS3:=iH (HS.out.lift hb);have HBT3:=iH (HB2.out.trans (hb.mono HB2.out.size));clear hb)
 go_upto_region 9 with (go_at_call 28;refine(XN n r _ _ w3 (HK.out.1.below HBT3.out HK.out.1.lt) HN3.out HR3.out).mono ?_;rw [HI1.out];rintro e w4 ⟨rfl,hb⟩;have HB4:=iH hb;have HS4:=iH (HS3.out.lift hb);have HBT4:=iH (HBT3.out.trans (hb.mono HBT3.out.size));clear hb)
 go_upto_region 10 with (go_at_call 27;refine(K0 n6 n6 _ _ w4 (HK.out.2.below HBT4.out HK.out.2.lt) HS4.out HS4.out).mono ?_;rw [HI2.out];rintro e w5 ⟨rfl,hb⟩;have HBT5:=iH (HBT4.out.trans (hb.mono HBT4.out.size));clear hb)
 go_wp2_with(first
  |(go_at_call 11;refine(qx w5 (HK.out.2.below HBT5.out HK.out.2.lt)).mono ?_;rintro e w6 ⟨rfl,hb⟩;have HBT6:=iH (HBT5.out.trans (hb.mono HBT5.out.size));clear hb)
  |(go_at_call 29;refine(zM x4 w6).mono ?_;rw [HE4.out];rintro e w' ⟨rfl,hw⟩;rw [hw];clear hw w'))
 go_ret
 exact⟨rfl,HBT6.out⟩
end Go.Proofs.YtalmmiojbmpmiaaGreatDoor
