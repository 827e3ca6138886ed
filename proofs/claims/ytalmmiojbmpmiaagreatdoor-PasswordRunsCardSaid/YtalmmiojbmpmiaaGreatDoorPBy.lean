/- made.Dice: Spoil -/
import Derived.Test.YtalmmiojbmpmiaaGreatDoorPBh
import Derived.Test.YtalmmiojbmpmiaaGreatDoorPBl
set_option linter.all false
set_option maxRecDepth 100000
set_option maxHeartbeats 4000000
namespace Go.Proofs.YtalmmiojbmpmiaaGreatDoor
open Go.RowKit Go.Deep
theorem OwnB.slot{w:World}{base:Nat}{A:Option Addr}{c:Nat}{l:List UInt8}(h:OwnB w base (.slice A l.length c) l)(hl:0<l.length):
 ∃g,A=some ⟨g,0,none⟩/\base<=g/\g<w.heap.size/\l.length<=c/\c<=9223372036854775807/\(∀j,j<l.length->w.cell? ⟨g,j,none⟩=some (U8 (gb l j)))/\∀j,w.frozen? ⟨g,j,none⟩=false:=by
 have hc:=fun g=>World.ownsRow.cells h (g:=g)
 rcases h.2 with ⟨e,h0⟩|⟨g,cap,cur,hv,hb,hh,hn,hm,r⟩
 ·omega
 ·injection hv with e1 _ e3
  subst e1 e3
  refine⟨g,rfl,hb,(iG hh),hn,hm,fun j hj=> ?_,fun j=>by simp [World.frozen?,hh]⟩
  have:=hc g rfl j (U8 (gb l j)) (jK l j hj)
  have e:(⟨g,0,none⟩:Addr).add j=⟨g,0+j,none⟩:=by unfold Addr.add;split<;>simp_all
  rwa [e,Nat.zero_add]at this
theorem BsS.set{w:World}{S:Nat->Prop}{g c k:Nat}{l:List UInt8}(h:BsS w S (.slice (some ⟨g,0,none⟩) l.length c) l)(hk:k<l.length)(u:UInt8):BsS (w.setCell ⟨g,k,none⟩ (U8 u)) S (.slice (some ⟨g,0,none⟩) l.length c) (l.set k u):=by
 obtain⟨a,c',hv,h1,h2,h3,h4⟩:=h
 injection hv with e1 e2 e3
 subst e1 e3
 have hll:(l.set k u).length=l.length:=by simp
 refine⟨_,c,by rw [hll],by omega,h2,by omega,fun hp=> ?_⟩
 rw [hll]at hp
 obtain⟨b,off,ha,hb,hc⟩:=h4 hp
 injection ha with ha
 injection ha with ha1 ha2
 subst ha1 ha2
 refine⟨g,0,rfl,hb,fun j hj=> ?_⟩
 rw [hll]at hj
 by_cases e:j=k
 ·subst e
  rw [Nat.zero_add]
  have:=hc j hj
  rw [Nat.zero_add]at this
  rw [World.cell?_setCell_same (h:=this)]
  congr 2
  unfold gb
  simp [hj]
 ·rw [World.cell?_setCell_other (h:=by intro h;injection h with _ h;omega),hc j hj]
  congr 2
  unfold gb
  simp [show ¬k=j by omega]
theorem Vs{x:Int}(h0:0<=x)(h1:x<256):∃u:UInt8,Value.int .u8 x=U8 u:=⟨ofI x,by rw [<-jh,Int.emod_eq_of_lt h0 h1]⟩
def Q5(B:Nat)(w:World)(p n:Nat)(l:List UInt8)(e:Ending)(w':World):Prop:=∃v' l',e=.returned v'/\BsS w' (New w w') v' l'/\l'.length<=l.length+1/\DiePost B w p n w'
theorem Z9{B:Nat}{w wi:World}{p n g c k:Nat}{l:List UInt8}(h:DRow B w wi p n (.slice (some ⟨g,0,none⟩) l.length c) l)(hl:l.length<=1000000000)(hk:k<l.length){x:Int}(h0:0<=x)(h1:x<256):
 Q5 B w p n l (.returned (.slice (some ⟨g,0,none⟩) l.length c)) (wi.setCell ⟨g,k,none⟩ (.int .u8 x)):=by
 obtain⟨u,hu⟩:=Vs h0 h1
 rw [hu]
 have hg:=(h.own.lt g rfl)
 have hb:=h.own.out (by omega) w iL
 have hB:=h.2.2
 refine⟨_,l.set k u,rfl,(hb.set hk u).keep fun b hs _=>⟨rfl,hs.1,by simpa [World.setCell]using hs.2⟩,by simp,h.die.keep (by simp [World.setCell]) fun b hb=>iO (by show b≠g;omega),?_⟩
 have h2:=h.2.1.2
 exact⟨h2.os,h2.tape,h2.output,by simpa [World.setCell]using h2.size,fun i hi hne=>(iO (by show i≠g;omega)).trans (h2.block i hi hne)⟩
theorem Qq(g:Nat):∀(vs:List Value) (o:Nat) (w:World),(w.setCells g o vs).heap.size=w.heap.size/\(w.setCells g o vs).os=w.os/\(w.setCells g o vs).tape=w.tape/\(w.setCells g o vs).output=w.output/\∀i,i≠g->(w.setCells g o vs).heap[i]?=w.heap[i]? :=by
 intro vs
 induction vs with
 |nil=>intro o w;exact⟨rfl,rfl,rfl,rfl,fun _ _=>rfl⟩
 |cons v vs ih=>
  intro o w
  obtain⟨h1,h2,h3,h4,h5⟩:=ih (o+1) (w.setCell ⟨g,o,none⟩ v)
  exact⟨h1.trans (by simp [World.setCell]),h2,h3,h4,fun i hi=>(h5 i hi).trans (iO hi)⟩
theorem j0z{B:Nat}{w wi:World}{p n g c k:Nat}{l:List UInt8}(h:DRow B w wi p n (.slice (some ⟨g,0,none⟩) l.length c) l)(hl:l.length<=1000000000)(hk:k<l.length)(hc:l.length<=c)(sc:∀j,j<l.length->wi.cell? ⟨g,j,none⟩=some (U8 (gb l j))):
 Q5 B w p n l (.returned (.slice (some ⟨g,0,none⟩) (k+(l.length - (k+1))) c)) (wi.drew.setCells g (0+k*1) ((l.drop (k+1)).map U8)):=by
 have hg:=(h.own.lt g rfl)
 have hB:=h.2.2
 obtain⟨_,_,hv,_,hcm,_,_⟩:=h.own.out (by omega) w iL
 injection hv with _ _ hv
 subst hv
 obtain⟨e1,e2,e3,e4,e5⟩:=Qq g ((l.drop (k+1)).map U8) (0+k*1) wi.drew
 rw [Nat.zero_add,Nat.mul_one]at e1 e2 e3 e4 e5 |-
 have h2:=h.2.1.2
 have hln:(l.take k++l.drop (k+1)).length=k+(l.length - (k+1)):=by simp;omega
 refine⟨_,l.take k++l.drop (k+1),rfl,⟨_,c,by rw [hln],by omega,hcm,by omega,fun _=>⟨g,0,rfl,⟨hg.1,by rw [e1];exact hg.2⟩,fun j hj=> ?_⟩⟩,by omega,h.die.keep (by rw [e1];exact Nat.le_refl _) fun b hb=>e5 b (by omega),⟨e2.trans h2.os,e3.trans h2.tape,e4.trans h2.output,by rw [e1];exact h2.size,fun i hi hne=>(e5 i (by omega)).trans (h2.block i hi hne)⟩⟩
 rw [hln]at hj
 rw [Nat.zero_add]
 by_cases hjk:j<k
 ·rw [World.cell?_setCells_out g _ k wi.drew ⟨g,j,none⟩ (fun _ _=>.inl hjk)]
  refine(sc j (by omega)).trans ?_
  congr 2
  unfold gb
  have hlt:min k l.length=k:=by omega
  simp [List.getElem?_append,hjk,hlt,show j<l.length by omega]
 ·have hvl:j - k<((l.drop (k+1)).map U8).length:=by simp;omega
  have:=World.cell?_setCells_in g ((l.drop (k+1)).map U8) k wi.drew (fun q hq=>by
   have hq:q<l.length - (k+1):=by simpa using hq
   show(wi.cell? _).isSome=true
   rw [sc (k+q) (by omega)]<;>rfl) (j - k) hvl
  rw [show k+(j - k)=j by omega]at this
  rw [this]
  congr 1
  simp only [List.getElem_map,List.getElem_drop]
  congr 1
  unfold gb
  have hlt:min k l.length=k:=by omega
  simp [List.getElem?_append,hjk,hlt,show k+1+(j - k)<l.length by omega]
theorem Z8(B p n:Nat)(l:List UInt8)(v:Value)(w:World)(hv:BsS w (fun b=>b<w.heap.size/\b≠p) v l)(hl:l.length<=1000000000)(hd:Die B w p n):
 Calls Tryz.prog 38 #[.pointer (some ⟨p,0,none⟩),v] w (Q5 B w p n l):=by
 have H0:=iH (DRow.start hd)
 obtain⟨va,vc,rfl⟩:=hv.form2
 have HV:=iH hv
 clear hv hd
 rcases Nat.eq_zero_or_pos l.length with hl0|hl0
 ·have e:l= []:=List.eq_nil_of_length_eq_zero hl0
  subst e
  clear hl0
  go_enter Tryz.func38,Tryz.ntmps38
  go_wp2_with(first
   |(at_builtin;(with_reducible refine j5 rfl (.const (.slice none 0 0)) (.tmp 7) rfl w.heap.size (.slice none 0 0) [] rfl H0.out.own va ([]:List UInt8).length vc [] _ rfl HV.out (by simp) iL ?_);intro v1 w1 hgr;have H1:=iH (H0.out.grew hgr);obtain⟨a1,c1,rfl⟩:=H1.out.own.form;clear hgr)
   |(go_at_call 42;refine(kU B p n _ _ H1.out.die (by decide) (by decide)).mono ?_;rintro e w2 ⟨z,rfl,hz,hd⟩;have H2:=iH (H1.out.call hd);clear hd))
  go_ret
  obtain⟨u,hu⟩:=Vs (x:=(z:Int)) (by omega) (by omega)
  rw [hu]
  have hH:=H2.out
  refine⟨_,[u],rfl,(yq w2 [u] _ (by simp) _ rfl).keep fun b hs _=>⟨rfl,by have:=hs.1;have:=hH.size;omega,hs.2⟩,by simp,(hH.alloc _).2.1⟩
 ·have HX:=iH hl
  go_enter Tryz.func38,Tryz.ntmps38
  go_upto_region 7 with (first
   |(at_builtin;(with_reducible refine j5 rfl (.const (.slice none 0 0)) (.tmp 7) rfl w.heap.size (.slice none 0 0) [] rfl H0.out.own va l.length vc l _ rfl HV.out (by simp;omega) iL ?_);intro v1 w1 hgr;rw [List.nil_append]at hgr;have H1:=iH (H0.out.grew hgr);obtain⟨a1,c1,rfl⟩:=H1.out.own.form;clear hgr)
   |(go_at_call 42;refine(kU B p n _ _ H2.out.die (by decide) (by decide)).mono ?_;rintro e w3 ⟨q,rfl,hq,hd⟩;have H3:=iH (H2.out.call hd);clear hd)
   |(go_at_call 42;refine(kU B p n _ _ H1.out.die (by omega) (by omega)).mono ?_;rintro e w2 ⟨k,rfl,hk,hd⟩;have H2:=iH (H1.out.call hd);clear hd))
  have hkl:k<l.length:=by omega
  obtain⟨g,rfl,hg1,hg2,hg3,hg4,sc,sf⟩:=H3.out.own.slot hl0
  have hpg:p≠g:=by have:=H3.out.die.lt;have:=H3.out.2.2;omega
  have ck:=sc k hkl;have fk:=sf k
  have SC:=iH sc;have SF:=iH sf
  clear sc sf H0 HV
  obtain rfl|rfl|rfl|rfl:q=0\/q=1\/q=2\/q=3:=by omega
  ·have ih5:=iH (fun(w4:World) (h:DRow B w w4 p n (.slice (some ⟨g,0,none⟩) l.length c1) l)=>h.own.slot hl0)
   go_wp2_with(go_at_call 42;refine(kU B p n _ _ H3.out.die (by decide) (by decide)).mono ?_;rintro e w4 ⟨z,rfl,hz,hd⟩;have H4:=iH (H3.out.call hd);obtain⟨g',e1,_,_,_,_,sc,sf⟩:=ih5.out w4 H4.out;obtain rfl:g=g':=(by injection e1 with e1;injection e1);have c4:=sc k hkl;have f4:=sf k;clear hd e1 sc sf)
   go_ret
   exact Z9 H4.out HX.out hkl (by omega) (by omega)
  ·have D4:Hid (Die B w3.drew p n):=(show Die B w3.drew p n from H3.out.die)
   have ih5:=iH (fun(w4:World) (h:DRow B w w4 p n (.slice (some ⟨g,0,none⟩) l.length c1) l)=>h.own.slot hl0)
   go_upto_region 10 with fail
   go_region_with (go_at_call 42;refine(kU B p n _ _ D4.out (by decide) (by decide)).mono ?_;rintro e w4 ⟨z,rfl,hz,hd⟩;have H4:=iH (H3.out.call (show DiePost B w3 p n w4 from⟨hd.1,⟨hd.2.os,hd.2.tape,hd.2.output,hd.2.size,hd.2.block⟩⟩));obtain⟨g',e1,_,_,_,_,sc,sf⟩:=ih5.out w4 H4.out;obtain rfl:g=g':=(by injection e1 with e1;injection e1);have c4:=sc k hkl;have f4:=sf k;clear hd e1 sc sf)
   all_goals go_wp2_with fail
   all_goals go_ret
   all_goals exact Z9 H4.out HX.out hkl (jP _) (jT _)
  ·obtain⟨A,hA,hnews⟩:∃A:Addr,(if c1=k+1 then some (⟨g,0,none⟩:Addr)else some ⟨g,k+1,none⟩)=some A/\Hid (∀j u,((l.drop (k+1)).map U8)[j]?=some u->w3.drew.cell? (A.add j)=some u):=by
    by_cases h:c1=k+1
    ·refine⟨⟨g,0,none⟩,by simp [h],fun j u hu=> ?_⟩
     have h0:((l.drop (k+1)).map U8)= []:=by rw [List.drop_eq_nil_of_le (by omega)]<;>rfl
     rw [h0]at hu
     simp at hu
    ·refine⟨⟨g,k+1,none⟩,by simp [h],fun j u hu=> ?_⟩
     have hj:j<l.length - (k+1):=by
      have:=(List.getElem?_eq_some_iff.1 hu).1
      simpa using this
     rw [jK _ j (by simpa using hj)]at hu
     injection hu with hu
     subst hu
     rw [Addr.add_lit,ZH]
     exact SC.out (k+1+j) (by omega)
   have s1:Hid (((l.drop (k+1)).map U8).length=(l.length - (k+1))*1):=by show _=_;simp
   have s2:Hid (∀u∈(l.drop (k+1)).map U8,u.oneCell'=true):=by
    intro u hu
    obtain⟨x,_,rfl⟩:=List.mem_map.1 hu
    rfl
   have s3:Hid (∀j,j<((l.drop (k+1)).map U8).length->(w3.drew.cell? ⟨g,0+k*1+j,none⟩).isSome=true/\w3.drew.frozen? ⟨g,0+k*1+j,none⟩=false):=by
    intro j hj
    have hj:j<l.length - (k+1):=by simpa using hj
    rw [Nat.zero_add,Nat.mul_one]
    exact⟨by show(w3.cell? _).isSome=true;rw [SC.out (k+j) (by omega)]<;>rfl,SF.out (k+j)⟩
   have hic:k<=c1:=by omega
   have hwr:IntKind.i64.wrap ((k:Int)+1)=(k:Int)+1:=by rw [IntKind.wrap_i64];omega
   have hp0:(0:Int)<=(k:Int)+1:=by omega
   have hp1:(k:Int)+1<=(l.length:Int):=by omega
   have hp2:((k:Int)+1).toNat=k+1:=by omega
   obtain⟨i0,hinfo,hzz⟩:=Option.map_eq_some_iff.1 kC
   simp only [Prod.mk.injEq]at hzz
   obtain⟨hz,hsize,hbb⟩:=hzz
   have HI:=iH hinfo;have HZ:=iH hsize
   clear hinfo hsize hz hbb ck fk
   go_upto_region 12 with fail
   go_region_law (refine step_append_room rfl (.tmp 52) (.tmp 56) 22 rfl 5 i0 1 Tryz.underlying22 HI.out HZ.out g 0 k c1 (by simp [Act.eval,Act.put]) A (l.length - (k+1)) (c1 - (k+1)) ((l.drop (k+1)).map U8) (by simp [Act.eval,Act.put]) s1.out hnews.out s2.out (by omega) s3.out ?_)
   go_wp2_with fail
   go_ret
   have e:=j0z H3.out HX.out hkl hg3 SC.out
   rw [Nat.zero_add,Nat.mul_one,List.map_drop]at e
   exact e
  ·go_wp2_with(first
    |(at_builtin;(with_reducible refine xn rfl (.tmp 22) (.tmp 26) rfl w.heap.size (.slice (some ⟨g,0,none⟩) l.length c1) l rfl H4.out.own (z:Int) (by omega) (by omega) _ w4.heap.size rfl rfl (by omega) H4.out.size ?_);intro v5 w5 hgr;obtain⟨l5,E5,k5⟩:=k7 (l++ [ofI (z:Int)]) (l.length+1) (by simp);rw [E5.out]at hgr;have H5:=iH (H4.out.grew hgr);obtain⟨a5,c5,rfl⟩:=H5.out.own.form;clear hgr)
    |(go_at_call 42;refine(kU B p n _ _ H3.out.die (by decide) (by decide)).mono ?_;rintro e w4 ⟨z,rfl,hz,hd⟩;have H4:=iH (H3.out.call hd);clear hd))
   go_ret
   exact⟨_,l5,rfl,H5.out.own.out (by omega) w iL,by omega,H5.out.2.1⟩
end Go.Proofs.YtalmmiojbmpmiaaGreatDoor
