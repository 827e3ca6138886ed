/- made.Dice: Session; words for what the dice make; Layer 21: what the dice make: a password; Values of bytes beside the dice, all in one word -/
import Derived.Test.YtalmmiojbmpmiaaGreatDoorPBj
set_option linter.all false
set_option maxRecDepth 100000
set_option maxHeartbeats 4000000
namespace Go.Proofs.YtalmmiojbmpmiaaGreatDoor
open Go.RowKit Go.Deep
theorem DiePost.refl{B:Nat}{w:World}{p n:Nat}(h:Die B w p n):DiePost B w p n w:=⟨h,World.grownBy.refl _ _⟩
theorem DiePost.alloc{B:Nat}{w w1:World}{p n:Nat}(h:DiePost B w p n w1)(o:Obj):DiePost B w p n (w1.alloc o):=⟨h.1.alloc o,jQ h.2 o⟩
theorem DiePost.set{B:Nat}{w w1:World}{p n g k:Nat}(h:DiePost B w p n w1)(hB:B<=w.heap.size)(hg:w.heap.size<=g)(u:Value):DiePost B w p n (w1.setCell ⟨g,k,none⟩ u):=
 ⟨h.1.keep (by simp) fun b hb=>iO (by show b≠g;omega),j31 h.2 (j7 (World.grownBy.refl _ _) (.inl rfl) _) hg⟩
theorem DiePost.blk{B:Nat}{w w1:World}{p n k:Nat}(h:DiePost B w p n w1)(hk:k<w.heap.size)(hp:k≠p):w1.heap[k]?=w.heap[k]? :=h.2.block k hk fun e=>by injection e with e;exact hp e
theorem VC(B p n:Nat)(w:World)(h:Die B w p n):
 Calls Tryz.prog 44 #[.pointer (some ⟨p,0,none⟩),.int .i64 256] w fun e w'=>∃z:Nat,e=.returned (.int .u8 z)/\z<256/\DiePost B w p n w':=by
 have H:=iH h
 clear h
 go_enter Tryz.func44,Tryz.ntmps44
 go_wp2_with(go_at_call 42;refine(kU B p n _ _ H.out (by decide) (by decide)).mono ?_;rintro e w1 ⟨z,rfl,hz,hd⟩;have hz:z<256:=(by omega);have HD:=iH hd;clear hd)
 go_ret
 exact⟨z,by go_num,hz,HD.out⟩
theorem ZF(B p n:Nat)(m:Int)(w:World)(h:Die B w p n)(hm0:0<=m)(hm:m<=100000):
 Calls Tryz.prog 43 #[.pointer (some ⟨p,0,none⟩),.int .i64 m] w fun e w'=>∃a c l,e=.returned (.slice a (List.length l) c)/\DRow B w w' p n (.slice a (List.length l) c) l/\(l.length:Int)<=m:=by
 have H0:=iH (DRow.start h)
 clear h
 go_enter Tryz.func43,Tryz.ntmps43
 go_wp2_with(go_at_call 42;refine(kU B p n _ _ H0.out.die (by omega) (by omega)).mono ?_;rintro e w1 ⟨z0,rfl,hz0,hd⟩;have H1:=iH (H0.out.call hd);clear hd)
 go_loopg [5,6] z0 (fun q o i wr=>∃l:List UInt8,l.length+q=z0/\i=.int .i64 q/\DRow B w wr p n o l)
 case atStart=>exact⟨[],by simp,rfl,H1.out⟩
 case round=>
  obtain⟨l,hl,rfl,hR⟩:=hrel
  obtain⟨oa,oc,rfl⟩:=hR.own.form
  have HR:=iH hR
  clear hR
  by_cases hq:gk=0
  ·subst hq
   go_wp2_with fail
   go_ret
   exact⟨oa,oc,l,rfl,HR.out,by omega⟩
  ·have hq1:0<gk:=by omega
   clear hq
   go_wp2_with(first
    |(at_builtin;(with_reducible refine xn rfl (.tmp 15) (.tmp 19) rfl w.heap.size (.slice oa l.length oc) l rfl HR2.out.own (z:Int) (by omega) (by omega) _ w2.heap.size rfl rfl (by omega) HR2.out.size ?_);intro v3 w3 hgr;have H3:=iH (HR2.out.grew hgr);clear hgr)
    |(go_at_call 42;refine(kU B p n _ _ HR.out.die (by decide) (by decide)).mono ?_;rintro e w2 ⟨z,rfl,hz,hd⟩;have HR2:=iH (HR.out.call hd);clear hd))
   go_roundg (gk - 1)
   case measure=>omega
   case rel=>exact⟨_,by simp;omega,by go_num,H3.out⟩
theorem U1{w:World}{p:Nat}{a b u x:Value}{t:TypeId}(h:w.heap[p]?=some (.cells #[a,b] t (0,0))):((w.setCell ⟨p,0,none⟩ x).setCell ⟨p,1,none⟩ u).heap[p]?=some (.cells #[x,u] t (0,0)):=by
 refine U2 (a:=x) (b:=b) ?_
 show(w.heap.modify p _)[p]?=_
 rw [Array.getElem?_modify,iT rfl,h]
 rfl
theorem setOther{w:World}{g k:Nat}{u:Value}{b:Nat}(h:b≠g):(w.setCell ⟨g,k,none⟩ u).heap[b]?=w.heap[b]? :=iO (by show b≠g;exact h)
def j86(B:Nat)(w:World)(p n:Nat)(e:Ending)(w':World):Prop:=
 ∃(kd:Int) (sec:List UInt8) (A:Option Addr) (c:Nat),e=.returned (.agg #[.int .i64 kd,.slice A sec.length c])/\BsS w' (New w w') (.slice A sec.length c) sec/\(1<=kd/\kd<=4)/\(1<=sec.length/\sec.length<=21)/\DiePost B w p n w'
theorem Xt(B p n:Nat)(w:World)(h:Die B w p n):Calls Tryz.prog 14 #[.pointer (some ⟨p,0,none⟩)] w (j86 B w p n):=by
 obtain⟨w0,hw0⟩:∃w0,w0=w.alloc (.cells #[.int .i64 0,.slice none 0 0] 24):=⟨_,rfl⟩
 have D0:Hid (DiePost B w p n w0):=iH (by rw [hw0];exact(DiePost.refl h).alloc _)
 have R0:Hid (w0.heap[w.heap.size]?=some (.cells #[.int .i64 0,.slice none 0 0] 24 (0,0))):=iH (by rw [hw0];exact iN)
 have z0:w0.heap.size=w.heap.size+1:=by rw [hw0];simp
 have HW0:=iH hw0
 have hBw:=h.le
 have hpB:=h.lt
 clear h hw0
 go_enter Tryz.func14,Tryz.ntmps14
 go_upto_region 1 with fail
 rw [<-HW0.out]
 go_wp2_with(first
  |(at_builtin;(with_reducible refine xn rfl (.tmp 7) (.tmp 10) rfl w1.heap.size (.slice oa l.length oc) l rfl H3.out.own (y:Int) (by omega) (by omega) _ w3.heap.size rfl rfl (by omega) H3.out.size ?_);intro v4 w4 hgr;obtain⟨oa4,oc4,hp⟩:=hgr.1.form;subst hp;have H4:=iH (H3.out.grew hgr);obtain⟨c0,c1,cf⟩:=two ((H4.out.2.1.blk (k:=w.heap.size) (by omega) (by omega)).trans R1.out);have cf0:=cf 0;have cf1:=cf 1;clear hgr cf)
  |(go_at_call 44;refine(VC B p n w2 H2.out.die).mono ?_;rintro e w3 ⟨y,rfl,hy,hd⟩;have H3:=iH (H2.out.call hd);clear hd)
  |(go_at_call 43;refine(ZF B p n 20 w1 D1.out.1 (by decide) (by decide)).mono ?_;rintro e w2 ⟨oa,oc,l,rfl,hr,hl⟩;have H2:=iH hr;clear hr)
  |(go_at_call 42;refine(kU B p n 4 w0 D0.out.1 (by decide) (by decide)).mono ?_;rintro e w1 ⟨z,rfl,hz,hd⟩;have D1:=iH (D0.out.trans hd);have R1:=iH ((hd.blk (k:=w.heap.size) (by omega) (by omega)).trans R0.out);have z1:=hd.2.size;clear hd))
 have R4:=iH ((H4.out.2.1.blk (k:=w.heap.size) (by omega) (by omega)).trans R1.out)
 have hlen:(l++ [ofI y]).length=l.length+1:=by simp
 obtain⟨y0,y1,_⟩:=two (U1 (x:=.int .i64 (1+z)) (u:=.slice oa4 (l.length+1) oc4) R4.out)
 refine bodyPost_ret (v:=.agg #[.int .i64 (1+z),.slice oa4 (l.length+1) oc4]) (by simp [results,Tryz.results14,go_sem,y0,y1]) rfl ?_
 refine⟨1+z,l++ [ofI y],oa4,oc4,by rw [hlen],?_,⟨by omega,by omega⟩,⟨by simp,by simp;omega⟩,((D1.out.trans H4.out.2.1).set hBw iL _).set hBw iL _⟩
 refine(H4.out.own.out (by simp;omega) w1 iL).keep fun g hg hl2=> ?_
 have:=hg.1
 exact⟨(setOther (by omega)).trans (setOther (by omega)),by omega,by simpa using hg.2⟩
def BA(w:World)(n:Nat)(wx:World)(L:List (Value×List UInt8)):Prop:=
 Die (w.heap.size+1) wx w.heap.size n/\Below w.heap.size w wx/\∀x∈L,BsS wx (fun b=>b<wx.heap.size/\b≠w.heap.size) x.1 x.2
section
variable {w wx wy:World} {n:Nat} {L:List (Value×List UInt8)}
section
variable(h:BA w n wx L)
include h
theorem BA.die:Die (w.heap.size+1) wx w.heap.size n:=h.1
theorem BA.bel:Below w.heap.size w wx:=h.2.1
theorem BA.lt:w.heap.size<wx.heap.size:=h.1.le
theorem BA.at(i:Nat){v:Value}{l:List UInt8}(hi:L[i]?=some (v,l)):BsS wx (fun b=>b<wx.heap.size/\b≠w.heap.size) v l:=h.2.2 (v,l) (List.mem_of_getElem? hi)
theorem BA.dice(hd:DiePost (w.heap.size+1) wx w.heap.size n wy):BA w n wy L:=
 ⟨hd.1,h.2.1.grown hd.2 h.2.1.size (fun k e=>by injection e with e;omega),fun x hx=>(h.2.2 x hx).dieB hd⟩
theorem BA.on(hb:Below wx.heap.size wx wy):BA w n wy L:=
 ⟨h.1.below (hb.mono h.1.le),h.2.1.trans (hb.mono h.2.1.size),fun x hx=>(h.2.2 x hx).onB hb⟩
theorem BA.add{wz:World}(hp:w.heap.size<wz.heap.size){v:Value}{l:List UInt8}(hv:BsS wx (New wz wx) v l):BA w n wx ((v,l) :: L):=
 ⟨h.1,h.2.1,fun x hx=>by
  rcases List.mem_cons.1 hx with rfl|hx
  ·exact hv.madeB hp
  ·exact h.2.2 x hx⟩
theorem BA.but(L':List (Value×List UInt8))(hl:∀x∈L',x∈L):BA w n wx L':=⟨h.1,h.2.1,fun x hx=>h.2.2 x (hl x hx)⟩
end
theorem BA.nil(hd:Die (w.heap.size+1) wx w.heap.size n)(hb:Below w.heap.size w wx):BA w n wx []:=⟨hd,hb,fun _ h=>by simp at h⟩
theorem BA.arg(h:BA w n wx L){v:Value}{l:List UInt8}(hv:Bs w w.heap.size v l):BA w n wx ((v,l) :: L):=
 ⟨h.1,h.2.1,fun x hx=>by
  rcases List.mem_cons.1 hx with rfl|hx
  ·exact BsS.keep hv fun g hg _=>⟨h.2.1.block g hg,iZ hg h.2.1.size,by omega⟩
  ·exact h.2.2 x hx⟩
end
end Go.Proofs.YtalmmiojbmpmiaaGreatDoor
