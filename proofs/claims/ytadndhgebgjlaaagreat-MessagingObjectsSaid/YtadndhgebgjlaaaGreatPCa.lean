/- Layer 19's awake -/
import Derived.Test.YtadndhgebgjlaaaGreatPBx
set_option linter.all false
set_option maxRecDepth 100000
set_option maxHeartbeats 4000000
namespace Go.Proofs.YtadndhgebgjlaaaGreat
open Go.RowKit Go.Deep
theorem m0s{P:Prop}(h:P:=by
 exact(.cons (fun _ _ _ _ _ hr ⟨X1,x1,X2,x2,e,h1,h2⟩=>⟨X1,x1,X2,x2,e,h1.rz2 hr,h2.rz2 hr⟩) (.cons (fun _ _ _ _ _ _ h=>h) (.cons (fun _ _ _ _ _ hr ⟨dA,dc,X1,x1,X2,x2,e,h0,h1,h2⟩=>⟨dA,dc,X1,x1,X2,x2,e,h0.rz2 hr,h1.rz2 hr,h2.rz2 hr⟩) (.cons (fun _ _ _ _ _ hr ⟨dA,dc,X1,x1,X2,x2,e,h0,h1,h2⟩=>⟨dA,dc,X1,x1,X2,x2,e,h0.rz2 hr,h1.rz2 hr,h2.rz2 hr⟩) (.cons (fun _ _ _ _ _ hr ⟨dA,dc,e,h⟩=>⟨dA,dc,e,h.rz2 hr⟩) (.cons (fun _ _ _ _ _ hr ⟨X1,x1,X2,x2,e,h1,h2⟩=>⟨X1,x1,X2,x2,e,h1.rz2 hr,h2.rz2 hr⟩) (.cons (fun _ _ _ _ _ _ h=>h) (.cons (fun _ _ _ _ _ _ h=>h) (.cons (fun _ _ _ _ _ _ h=>h) (.cons (fun _ _ _ _ _ hr ⟨q,dA,dc,e,hq,hw,h⟩=>⟨q,dA,dc,e,hq,hr.row6 hw (by simp),h.rz2 hr⟩) (.cons (fun _ _ _ _ _ hr ⟨q,X1,x1,X2,x2,e,hq,hw,h1,h2⟩=>⟨q,X1,x1,X2,x2,e,hq,hr.row3 hw (by simp),h1.rz2 hr,h2.rz2 hr⟩) (.cons (fun _ _ _ _ _ _ h=>h) .nil))))))))))))):P:=h
theorem m17{P:Prop}(h:P:=by
 obtain⟨Y1,c1,hp1⟩:∃A c,y1=.slice A 16 c:=(by obtain⟨a,c,e,_⟩:=g1;exact⟨a,c,by rw [e,qK]⟩)
 obtain⟨Y2,c2,hp2⟩:∃A c,y2=.slice A 16 c:=(by obtain⟨a,c,e,_⟩:=g2;exact⟨a,c,by rw [e,qK]⟩)
 subst hp;subst hp1;subst hp2
 exact hK _ _ (hJ.step hb 2 (by decide) (by decide) (by decide) (by decide)) (RZ2.of hb) ⟨_,_,_,_,_,_,rfl,hd,g1,g2⟩):P:=h
theorem m21{P:Prop}(h:P:=by
 go_simp
 refine(Yq w1).mono ?_
 rintro e w5 ⟨X1,x1,X2,x2,rfl,h1,h2,hb⟩
 exact hK _ _ (hJ.step hb 0 (by decide) (by decide) (by decide) (by decide)) (RZ2.of hb) ⟨_,_,_,_,rfl,h1,h2⟩):P:=h
theorem m22{P:Prop}(h:P:=by
 have e6:v 6=_:=hF 6 (hA 6 (by simp))
 simp only [e6]at hK
 go_simp
 refine hK _ _ (hJ.step iB 11 (by decide) (by decide) (by decide) (by decide)) RZ2.refl ?_
 first|exact rfl|exact j5 _):P:=h
theorem m2h{P:Prop}(h:P:=by
 simp only [e2]at hK
 go_simp
 exact hK _ _ (hJ.step iB 3 (by decide) (by decide) (by decide) (by decide)) RZ2.refl ⟨_,_,_,_,_,_,rfl,h0,h1,h2⟩):P:=h
theorem m2o{P:Prop}(h:P:=by
 simp only [e3]at hK
 go_simp
 exact hK _ _ (hJ.step iB 5 (by decide) (by decide) (by decide) (by decide)) RZ2.refl ⟨_,_,_,_,rfl,h1,h2⟩):P:=h
theorem m2r{P:Prop}(h:P:=by
 have Hm:=KM
 go_simp
 exact hK _ _ (hJ.trans ((k7 w1).mono hJ.size)) (k7 w1) ⟨_,rfl,BsS.keep (Ku w1) fun g hs _=>⟨rfl,hs.2⟩⟩):P:=h
theorem m2t{P:Prop}(h:P:=by
 simp only [e3]at hK
 go_simp
 exact hK _ _ (hJ.step iB 4 (by decide) (by decide) (by decide) (by decide)) RZ2.refl ⟨_,_,rfl,h0⟩):P:=h
theorem m2z{P:Prop}(h:P:=by
 go_simp
 refine hK _ _ (hJ.step iB 1 (by decide) (by decide) (by decide) (by decide)) RZ2.refl ?_
 first|exact rfl|exact j5 _):P:=h
theorem m35{P:Prop}(h:P:=by
 simp only [e3]at hK
 go_simp
 exact hK _ _ (hJ.step iB 6 (by decide) (by decide) (by decide) (by decide)) RZ2.refl rfl):P:=h
theorem m3n{P:Prop}(h:P:=by
 go_simp
 exact hK _ _ (hJ.alloc6 (by decide) (by decide) (by decide)) (RZ2.of (iA)) trivial):P:=h
theorem m3o{P:Prop}(h:P:=by
 go_simp
 exact hK _ _ (hJ.alloc3 (by decide) (by decide) (by decide)) (RZ2.of (iA)) trivial):P:=h
theorem j62:(qe 151 (exV 8)).enc.length=3:=by decide
theorem Zh:∃b:List UInt8,b.length=13/\qd Z16 Z16 0 ⟨0,176,0,0,[],8⟩=(0,⟨12,176,0,0,b,65536⟩,Z16,Z16,1)/\jr Z16 Z16 0 ⟨12,176,0,0,b,65536⟩=(0,⟨0,176,0,0,[],8⟩,Z16,Z16,1):=by
 have h1:vS Z16 Z16 0=true:=decide_eq_true ⟨qK,qK,by decide,by decide⟩
 have h2:vC ⟨0,176,0,0,[],8⟩=true:=by decide
 have h3:Jo 0=true:=by decide
 obtain⟨b,hb,hl⟩:=j3f (k2:=Z16) (N:=Jh (0+1)) (head:=xB (0+12) 176 0 0) (V:=Zd Z16 (Jh (0+1)) []) (M:=exV 8) (tg:=151) qK (by decide) (by decide) (by decide) (by simp [Zd]) (by decide)
 rw [<-KH,<-Yj]at hb
 refine⟨b,?_,?_,?_⟩
 ·rw [hl,j62]<;>rfl
 ·unfold qd
  rw [iF (by rw [h1];simp),iF (by rw [h2];simp),iF (by rw [show(⟨0,176,0,0,[],8⟩:Cm).cl=0 from rfl,h3];simp),iF (by decide)]
  simp only
  rw [hb]
  rfl
 ·have:=ZZ (c:=⟨0,176,0,0,[],8⟩) h1 h2 h3 (by decide) (by simp) hb
  exact this
def QX(w:World)(q:Nat):Prop:=w.heap[q]?=some (.cells #[.int .i64 0,.int .i64 0,.int .i64 0,.int .i64 0,.slice none 0 0,.int .i64 0] 32 (0,0))
def QW(w:World)(q:Nat):Prop:=w.heap[q]?=some (.cells #[.slice none 0 0,.slice none 0 0,.int .i64 0] 29 (0,0))
theorem j1l{w:World}{q:Nat}(h:QX w q)(g:QW w q):False:=by
 unfold QX at h
 unfold QW at g
 rw [h]at g
 simp at g
structure RZ2 (w0 w1 w2:World):Prop where
 size:w1.heap.size<=w2.heap.size
 at_:∀k,k<w1.heap.size->w2.heap[k]?=w1.heap[k]? \/QX w1 k\/QW w1 k
theorem RZ2.of{w0 w1 w2:World}(h:Below w1.heap.size w1 w2):RZ2 w0 w1 w2:=⟨h.size,fun k hk=>.inl (h.block k hk)⟩
theorem RZ2.refl{w0 w1:World}:RZ2 w0 w1 w1:=⟨Nat.le_refl _,fun _ _=>.inl rfl⟩
theorem RZ2.set3{w0 w1:World}{q:Nat}(hrow:QW w1 q)(a b c:Value):RZ2 w0 w1 (set3 w1 q a b c):=⟨by rw [kW];exact Nat.le_refl _,fun k _=>by
 by_cases h:k=q
 ·subst h;exact .inr (.inr hrow)
 ·exact .inl (jC h)⟩
theorem RZ2.set6{w0 w1:World}{q:Nat}(hrow:QX w1 q)(a b c d e f:Value):RZ2 w0 w1 (set6 w1 q a b c d e f):=⟨by rw [qq];exact Nat.le_refl _,fun k _=>by
 by_cases h:k=q
 ·subst h;exact .inr (.inl hrow)
 ·exact .inl (jQ h)⟩
theorem RZ2.row3{w0 w1 w2:World}(h:RZ2 w0 w1 w2){q:Nat}{a b c:Value}(hr:w1.heap[q]?=some (.cells #[a,b,c] 29 (0,0)))(hn:c≠ .int .i64 0):w2.heap[q]?=some (.cells #[a,b,c] 29 (0,0)):=by
 rcases h.at_ q (iG hr)with e|e|e
 ·rw [e,hr]
 ·unfold QX at e
  rw [hr]at e
  simp at e
 ·unfold QW at e
  rw [hr]at e
  simp at e
  exact absurd e.2.2 hn
theorem RZ2.row6{w0 w1 w2:World}(h:RZ2 w0 w1 w2){q:Nat}{a b c d e f:Value}(hr:w1.heap[q]?=some (.cells #[a,b,c,d,e,f] 32 (0,0)))(hn:b≠ .int .i64 0):w2.heap[q]?=some (.cells #[a,b,c,d,e,f] 32 (0,0)):=by
 rcases h.at_ q (iG hr)with e|e|e
 ·rw [e,hr]
 ·unfold QX at e
  rw [hr]at e
  simp at e
  exact absurd e.2.1 hn
 ·unfold QW at e
  rw [hr]at e
  simp at e
theorem BsS.rz2{w0 w1 w2:World}{v:Value}{l:List UInt8}(h:Bs w1 w1.heap.size v l)(hr:RZ2 w0 w1 w2):Bs w2 w2.heap.size v l:=by
 obtain⟨a,c,hv,h1,h2,h3,h4⟩:=h
 refine⟨a,c,hv,h1,h2,h3,fun h0=> ?_⟩
 obtain⟨b,off,e,hS,hc⟩:=h4 h0
 refine⟨b,off,e,iZ hS hr.size,fun j hj=> ?_⟩
 rcases hr.at_ b hS with hb|hb|hb
 ·exact m45
 ·exfalso
  have hc0:=hc j hj
  rw [cell_of_row _ _ _ _ _ _ hb]at hc0
  exact ZB (A:=none) (n:=0) (k:=0) (off+j) _ hc0
 ·exfalso
  have hc0:=hc j hj
  rw [cell_of_row _ _ _ _ _ _ hb]at hc0
  exact j5e none none 0 0 0 0 0 (off+j) _ hc0
def JZ2(w0:World)(a s c t:Nat)(L:Nat->Bool)(v:Nat->Value)(w1:World):Prop:=
 Below w0.heap.size w0 w1/\(L s=false->L a=true->∃q,v a=.pointer (some ⟨q,0,none⟩)/\w0.heap.size<=q/\q<w1.heap.size/\QX w1 q)/\(L t=false->L c=true->∃q,v c=.pointer (some ⟨q,0,none⟩)/\w0.heap.size<=q/\q<w1.heap.size/\QW w1 q)
section
variable {w0 w1 w2:World} {a s c t:Nat} {L:Nat->Bool} {v:Nat->Value} {y:Value}
theorem JZ2.start:JZ2 w0 a s c t (fun _=>false) v w0.drew:=by
 refine⟨iB.drew,fun _ h=> ?_,fun _ h=> ?_⟩<;>exact absurd h (by simp)
section
variable(h:JZ2 w0 a s c t L v w1)
include h
theorem JZ2.step(hb:Below w1.heap.size w1 w2)(i:Nat)(ha:i≠a)(hs:i≠s)(hc:i≠c)(ht:i≠t):JZ2 w0 a s c t (ji L i) (jy v i y) w2:=by
 refine⟨h.1.trans (hb.mono h.1.size),fun h1 h2=> ?_,fun h1 h2=> ?_⟩
 ·simp only [ji]at h1 h2
  rw [iF (Ne.symm hs)]at h1
  rw [iF (Ne.symm ha)]at h2
  obtain⟨q,e,hq,hl,hz⟩:=h.2.1 h1 h2
  exact⟨q,by simp only [jy];rw [iF (Ne.symm ha)];exact e,hq,iZ hl hb.size,(hb.block q hl).trans hz⟩
 ·simp only [ji]at h1 h2
  rw [iF (Ne.symm ht)]at h1
  rw [iF (Ne.symm hc)]at h2
  obtain⟨q,e,hq,hl,hz⟩:=h.2.2 h1 h2
  exact⟨q,by simp only [jy];rw [iF (Ne.symm hc)];exact e,hq,iZ hl hb.size,(hb.block q hl).trans hz⟩
theorem JZ2.alloc6(_:a≠s)(hc:c≠a)(ht:t≠a):JZ2 w0 a s c t (ji L a) (jy v a (.pointer (some ⟨w1.heap.size,0,none⟩))) (w1.alloc (.cells #[.int .i64 0,.int .i64 0,.int .i64 0,.int .i64 0,.slice none 0 0,.int .i64 0] 32)):=by
 refine⟨h.1.alloc h.1.size _,fun _ _=>⟨w1.heap.size,by simp [jy],h.1.size,by simp,iN⟩,fun h1 h2=> ?_⟩
 simp only [ji]at h1 h2
 rw [iF ht]at h1
 rw [iF hc]at h2
 obtain⟨q,e,hq,hl,hz⟩:=h.2.2 h1 h2
 exact⟨q,by simp only [jy];rw [iF hc];exact e,hq,iZ hl (by simp),(Below.heap_alloc _ _ _ hl).trans hz⟩
theorem JZ2.alloc3(_:c≠t)(ha:a≠c)(hs:s≠c):JZ2 w0 a s c t (ji L c) (jy v c (.pointer (some ⟨w1.heap.size,0,none⟩))) (w1.alloc (.cells #[.slice none 0 0,.slice none 0 0,.int .i64 0] 29)):=by
 refine⟨h.1.alloc h.1.size _,fun h1 h2=> ?_,fun _ _=>⟨w1.heap.size,by simp [jy],h.1.size,by simp,iN⟩⟩
 simp only [ji]at h1 h2
 rw [iF hs]at h1
 rw [iF ha]at h2
 obtain⟨q,e,hq,hl,hz⟩:=h.2.1 h1 h2
 exact⟨q,by simp only [jy];rw [iF ha];exact e,hq,iZ hl (by simp),(Below.heap_alloc _ _ _ hl).trans hz⟩
theorem JZ2.store6{q:Nat}(hq:w0.heap.size<=q)(hrow:QX w1 q)(_:a≠s)(hc:c≠s)(ht:t≠s){b1 b2 b3 b4 b5 b6:Value}:JZ2 w0 a s c t (ji L s) (jy v s y) (set6 w1 q b1 b2 b3 b4 b5 b6):=by
 refine⟨Q2 h.1 hq,fun h1=>by simp [ji]at h1,fun h1 h2=> ?_⟩
 simp only [ji]at h1 h2
 rw [iF ht]at h1
 rw [iF hc]at h2
 obtain⟨p,e,hp,hl,hz⟩:=h.2.2 h1 h2
 have hne:p≠q:=fun e=>by subst e;exact j1l hrow hz
 exact⟨p,by simp only [jy];rw [iF hc];exact e,hp,by rw [qq];exact hl,(jQ hne).trans hz⟩
theorem JZ2.store3{q:Nat}(hq:w0.heap.size<=q)(hrow:QW w1 q)(_:c≠t)(ha:a≠t)(hs:s≠t){b1 b2 b3:Value}:JZ2 w0 a s c t (ji L t) (jy v t y) (set3 w1 q b1 b2 b3):=by
 refine⟨kV h.1 hq,fun h1 h2=> ?_,fun h1=>by simp [ji]at h1⟩
 simp only [ji]at h1 h2
 rw [iF hs]at h1
 rw [iF ha]at h2
 obtain⟨p,e,hp,hl,hz⟩:=h.2.1 h1 h2
 have hne:p≠q:=fun e=>by subst e;exact j1l hz hrow
 exact⟨p,by simp only [jy];rw [iF ha];exact e,hp,by rw [kW];exact hl,(jC hne).trans hz⟩
end
end
theorem Yq(w:World):Calls Tryz.prog 24 #[] w fun e w'=>∃X1 x1 X2 x2,e=.returned (.agg #[.slice X1 16 x1,.slice X2 16 x2,.int .i64 0])/\Bs w' w'.heap.size (.slice X1 16 x1) Z16/\Bs w' w'.heap.size (.slice X2 16 x2) Z16/\Below w.heap.size w w':=by
 have hmx:Tryz.prog.follows .mixedOrders=true:=by kernel_rfl
 obtain⟨w0,hw0⟩:∃w0,w0=w.alloc (.cells #[.slice none 0 0,.slice none 0 0,.int .i64 0] 29):=⟨_,rfl⟩
 have hB0:Below w.heap.size w w0:=by rw [hw0];exact iA
 have hh0:w0.heap[w.heap.size]?=some (.cells #[.slice none 0 0,.slice none 0 0,.int .i64 0] 29 (0,0)):=by rw [hw0];exact iN
 have HB:=iH hB0;have HR:=iH hh0;have HLT:=iH (iG hh0);have HW0:=iH hw0
 clear hB0 hh0 hw0
 go_enter Tryz.func24,Tryz.ntmps24
 go_upto_region 1 with fail
 rw [<-HW0.out]
 refine jc 3 [some 1,some 2,some 3] [[],[],[0,1]]
  (fun _ _ w1=>Below w0.heap.size w0 w1) (fun w1 w2=>Below w1.heap.size w1 w2)
  [fun v w1=>∃q,v 0=.slice (some ⟨q,0,none⟩) 16 16/\Bs w1 w1.heap.size (.slice (some ⟨q,0,none⟩) 16 16) Z16,
   fun v w1=>∃q,v 1=.slice (some ⟨q,0,none⟩) 16 16/\Bs w1 w1.heap.size (.slice (some ⟨q,0,none⟩) 16 16) Z16,
   fun v w1=>∃q0 q1,v 2=.agg #[.slice (some ⟨q0,0,none⟩) 16 16,.slice (some ⟨q1,0,none⟩) 16 16,.int .i64 0]/\Bs w1 w1.heap.size (.slice (some ⟨q0,0,none⟩) 16 16) Z16/\Bs w1 w1.heap.size (.slice (some ⟨q1,0,none⟩) 16 16) Z16]
  (by kernel_rfl) (by kernel_rfl) (fun _=>iB.drew) ?st ?steps ?tail
 case st=>
  exact(.cons (fun _ _ _ _ _ hr ⟨q,e,h⟩=>⟨q,e,h.lift hr⟩) (.cons (fun _ _ _ _ _ hr ⟨q,e,h⟩=>⟨q,e,h.lift hr⟩) (.cons (fun _ _ _ _ _ hr ⟨q0,q1,e,h,g⟩=>⟨q0,q1,e,h.lift hr,g.lift hr⟩) .nil)))
 case steps=>
  simp only [List.take_succ_cons,List.take_zero]
  refine(.cons ?_ (.cons ?_ (.cons ?_ .nil)))
  all_goals(intro L v w1 hJ hL hA hF K hK;simp only [jf,Act.put,Nat.zero_add,Nat.reduceAdd,List.setIfInBounds_toArray,List.set_cons_zero,List.set_cons_succ]at hK |-)
  ·exact m2r
  ·exact m2r
  ·obtain⟨q0,e0,h0⟩:∃q,v 0=_/\_:=hF 0 (hA 0 (by simp))
   obtain⟨q1,e1,h1⟩:∃q,v 1=_/\_:=hF 1 (hA 1 (by simp))
   simp only [e0,e1]at hK
   go_simp
   exact hK _ _ hJ iB ⟨_,_,rfl,h0,h1⟩
 case tail=>
  intro v w1 hJ hF
  obtain⟨q0,q1,e2,h0,h1⟩:∃q0 q1,v 2=.agg #[.slice (some ⟨q0,0,none⟩) 16 16,.slice (some ⟨q1,0,none⟩) 16 16,.int .i64 0]/\Bs w1 w1.heap.size (.slice (some ⟨q0,0,none⟩) 16 16) Z16/\Bs w1 w1.heap.size (.slice (some ⟨q1,0,none⟩) 16 16) Z16:=hF 2 (by simp)
  simp only [List.drop_succ_cons,List.drop_zero,jf,Act.put,Nat.zero_add,Nat.reduceAdd,List.setIfInBounds_toArray,List.set_cons_zero,List.set_cons_succ]
  simp only [e2]
  have hr:=(hJ.block w.heap.size HLT.out).trans HR.out
  obtain⟨z0,z1,z2,zf⟩:=j7 hr
  have zf0:=zf 0;have zf1:=zf 1;have zf2:=zf 2
  obtain⟨y0,y1,y2,_⟩:=j7 (qa (.slice (some ⟨q0,0,none⟩) 16 16) (.slice (some ⟨q1,0,none⟩) 16 16) (.int .i64 0) hr)
  have HRR:=iH hr;have H0:=iH h0;have H1:=iH h1;have HJ:=iH hJ
  clear zf hr h0 h1 hJ hF e2
  go_wp2_with fail
  refine bodyPost_ret (v:=.agg #[.slice (some ⟨q0,0,none⟩) 16 16,.slice (some ⟨q1,0,none⟩) 16 16,.int .i64 0]) (by simp only [set3]at y0 y1 y2;simp [results,Tryz.results24,go_sem,y0,y1,y2]) rfl ?_
  refine⟨_,_,_,_,rfl,?_,?_,kV (HB.out.trans (HJ.out.mono HB.out.size)) iL⟩
  ·exact BsS.keep (BsS.off H0.out HRR.out (j5e none none 0 0 0 0 0)) fun g hg _=>⟨jC hg.2,by simpa [set3]using hg.1⟩
  ·exact BsS.keep (BsS.off H1.out HRR.out (j5e none none 0 0 0 0 0)) fun g hg _=>⟨jC hg.2,by simpa [set3]using hg.1⟩
theorem qD(w:World):Calls Tryz.prog 8 #[] w fun e w'=>e=.returned (.bool true)/\Below w.heap.size w w':=by
 have hmx:Tryz.prog.follows .mixedOrders=true:=by kernel_rfl
 obtain⟨b,hb,hwr,hun⟩:=Zh
 have LD2:Hid (b.length=13):=iH hb
 have LD3:Hid (([]:List UInt8).length=0):=iH rfl
 have HWR:Hid (∀(x y:Value) (w:World),Bs w w.heap.size x Z16->Bs w w.heap.size y Z16->Calls Tryz.prog 23 #[.agg #[x,y,.int .i64 0],.agg #[.int .i64 0,.int .i64 176,.int .i64 0,.int .i64 0,.slice none 0 0,.int .i64 8]] w (yN (0,⟨12,176,0,0,b,65536⟩,Z16,Z16,1) w)):=iH (fun x y w h1 h2=>by rw [<-hwr];exact Xy _ _ Z16 Z16 0 ⟨0,176,0,0,[],8⟩ w ⟨x,y,rfl,h1,h2⟩ ⟨_,rfl,BsS.nil0 _ _⟩)
 have HUN:Hid (∀(x y d:Value) (w:World),Bs w w.heap.size x Z16->Bs w w.heap.size y Z16->Bs w w.heap.size d b->Calls Tryz.prog 25 #[.agg #[x,y,.int .i64 0],.agg #[.int .i64 12,.int .i64 176,.int .i64 0,.int .i64 0,d,.int .i64 65536]] w (yN (0,⟨0,176,0,0,[],8⟩,Z16,Z16,1) w)):=iH (fun x y d w h1 h2 h3=>by rw [<-hun];exact JU _ _ Z16 Z16 0 ⟨12,176,0,0,b,65536⟩ w ⟨x,y,rfl,h1,h2⟩ ⟨d,rfl,h3⟩)
 clear hb hwr hun
 obtain⟨n0,n1,n2,n3,n4,n5,nf⟩:=j8 (x9 w)
 have nf0:=nf 0;have nf1:=nf 1;have nf2:=nf 2;have nf3:=nf 3;have nf4:=nf 4;have nf5:=nf 5
 clear nf
 go_enter Tryz.func8,Tryz.ntmps8
 go_upto_region 2 with fail
 obtain⟨w1r,hw1⟩:∃w1r,w1r=w.alloc (.cells #[.int .i64 0,.int .i64 176,.int .i64 0,.int .i64 0,.slice none 0 0,.int .i64 8] 32):=⟨_,rfl⟩
 rw [<-hw1]
 have HBW1:Hid (Below w.heap.size w w1r):=iH (by rw [hw1];exact iA)
 have HR1:Hid (w1r.heap[w.heap.size]?=some (.cells #[.int .i64 0,.int .i64 176,.int .i64 0,.int .i64 0,.slice none 0 0,.int .i64 8] 32 (0,0))):=iH (by rw [hw1];exact iN)
 clear hw1 n0 n1 n2 n3 n4 n5 nf0 nf1 nf2 nf3 nf4 nf5
 refine jc 12 [some 10,some 11,some 12,some 9,some 13,some 14,some 15,some 2,some 3,none,none,some 4] [[],[],[0,1],[0,1,2],[0,1,2,3],[0,1,2,3],[0,1,2,3],[],[],[0,1,2,3,4,7,8],[0,1,2,3,4,5,7,8,9],[0,1,2,3,4,5,6,7,8,9,10]]
  (JZ2 w1r 7 9 8 10) (RZ2 w1r)
  [fun v w1=>∃X1 x1 X2 x2,v 0=.agg #[.slice X1 16 x1,.slice X2 16 x2,.int .i64 0]/\Bs w1 w1.heap.size (.slice X1 16 x1) Z16/\Bs w1 w1.heap.size (.slice X2 16 x2) Z16,
   fun v _=>v 1=.agg #[.int .i64 0,.int .i64 176,.int .i64 0,.int .i64 0,.slice none 0 0,.int .i64 8],
   fun v w1=>∃dA dc X1 x1 X2 x2,v 2=.tuple #[.agg #[.int .i64 12,.int .i64 176,.int .i64 0,.int .i64 0,.slice dA 13 dc,.int .i64 65536],.agg #[.slice X1 16 x1,.slice X2 16 x2,.int .i64 1],.int .i64 0]/\Bs w1 w1.heap.size (.slice dA 13 dc) b/\Bs w1 w1.heap.size (.slice X1 16 x1) Z16/\Bs w1 w1.heap.size (.slice X2 16 x2) Z16,
   fun v w1=>∃dA dc X1 x1 X2 x2,v 3=.tuple #[.agg #[.int .i64 12,.int .i64 176,.int .i64 0,.int .i64 0,.slice dA 13 dc,.int .i64 65536],.agg #[.slice X1 16 x1,.slice X2 16 x2,.int .i64 1],.int .i64 0]/\Bs w1 w1.heap.size (.slice dA 13 dc) b/\Bs w1 w1.heap.size (.slice X1 16 x1) Z16/\Bs w1 w1.heap.size (.slice X2 16 x2) Z16,
   fun v w1=>∃dA dc,v 4=.agg #[.int .i64 12,.int .i64 176,.int .i64 0,.int .i64 0,.slice dA 13 dc,.int .i64 65536]/\Bs w1 w1.heap.size (.slice dA 13 dc) b,
   fun v w1=>∃X1 x1 X2 x2,v 5=.agg #[.slice X1 16 x1,.slice X2 16 x2,.int .i64 1]/\Bs w1 w1.heap.size (.slice X1 16 x1) Z16/\Bs w1 w1.heap.size (.slice X2 16 x2) Z16,
   fun v _=>v 6=.int .i64 0,
   fun v w1=>True,
   fun v w1=>True,
   fun v w1=>∃q dA dc,v 7=.pointer (some ⟨q,0,none⟩)/\w1r.heap.size<=q/\w1.heap[q]?=some (.cells #[.int .i64 12,.int .i64 176,.int .i64 0,.int .i64 0,.slice dA 13 dc,.int .i64 65536] 32 (0,0))/\Bs w1 w1.heap.size (.slice dA 13 dc) b,
   fun v w1=>∃q X1 x1 X2 x2,v 8=.pointer (some ⟨q,0,none⟩)/\w1r.heap.size<=q/\w1.heap[q]?=some (.cells #[.slice X1 16 x1,.slice X2 16 x2,.int .i64 1] 29 (0,0))/\Bs w1 w1.heap.size (.slice X1 16 x1) Z16/\Bs w1 w1.heap.size (.slice X2 16 x2) Z16,
   fun v _=>v 11=.int .i64 0]
  (by kernel_rfl) (by kernel_rfl) (fun _=>JZ2.start) ?st2 ?steps2 ?tail2
 case st2=>
  exact m0s
 case steps2=>
  simp only [List.take_succ_cons,List.take_zero]
  refine(.cons ?_ (.cons ?_ (.cons ?_ (.cons ?_ (.cons ?_ (.cons ?_ (.cons ?_ (.cons ?_ (.cons ?_ (.cons ?_ (.cons ?_ (.cons ?_ .nil))))))))))))
  all_goals(intro L v w1 hJ hL hA hF K hK;simp only [jf,Act.put,Nat.zero_add,Nat.reduceAdd,List.setIfInBounds_toArray,List.set_cons_zero,List.set_cons_succ]at hK |-)
  ·exact m21
  ·obtain⟨c0,c1,c2,c3,c4,c5,_⟩:=j8 ((hJ.1.block w.heap.size (iG HR1.out)).trans HR1.out)
   exact m2z
  ·have e1:v 1=_:=hF 1 (hA 1 (by simp))
   simp only [e1]at hK
   obtain⟨X1,x1,X2,x2,e0,h1,h2⟩:∃X1 x1 X2 x2,v 0=.agg #[.slice X1 16 x1,.slice X2 16 x2,.int .i64 0]/\Bs w1 w1.heap.size (.slice X1 16 x1) Z16/\Bs w1 w1.heap.size (.slice X2 16 x2) Z16:=hF 0 (hA 0 (by simp))
   simp only [e0]at hK
   go_simp
   refine(HWR.out (.slice X1 16 x1) (.slice X2 16 x2) w1 h1 h2).mono ?_
   rintro e w5 ⟨cv,sv,rfl,⟨dd,rfl,hd⟩,⟨y1,y2,rfl,g1,g2⟩,hb⟩
   obtain⟨dA,dc,hp⟩:∃A c,dd=.slice A 13 c:=(by obtain⟨a,c,e,_⟩:=hd;exact⟨a,c,by rw [e,LD2.out]⟩)
   exact m17
  ·obtain⟨dA,dc,X1,x1,X2,x2,e2,h0,h1,h2⟩:∃dA dc X1 x1 X2 x2,v 2=.tuple #[.agg #[.int .i64 12,.int .i64 176,.int .i64 0,.int .i64 0,.slice dA 13 dc,.int .i64 65536],.agg #[.slice X1 16 x1,.slice X2 16 x2,.int .i64 1],.int .i64 0]/\Bs w1 w1.heap.size (.slice dA 13 dc) b/\Bs w1 w1.heap.size (.slice X1 16 x1) Z16/\Bs w1 w1.heap.size (.slice X2 16 x2) Z16:=hF 2 (hA 2 (by simp))
   exact m2h
  ·obtain⟨dA,dc,X1,x1,X2,x2,e3,h0,h1,h2⟩:∃dA dc X1 x1 X2 x2,v 3=.tuple #[.agg #[.int .i64 12,.int .i64 176,.int .i64 0,.int .i64 0,.slice dA 13 dc,.int .i64 65536],.agg #[.slice X1 16 x1,.slice X2 16 x2,.int .i64 1],.int .i64 0]/\Bs w1 w1.heap.size (.slice dA 13 dc) b/\Bs w1 w1.heap.size (.slice X1 16 x1) Z16/\Bs w1 w1.heap.size (.slice X2 16 x2) Z16:=hF 3 (hA 3 (by simp))
   exact m2t
  ·obtain⟨dA,dc,X1,x1,X2,x2,e3,h0,h1,h2⟩:∃dA dc X1 x1 X2 x2,v 3=.tuple #[.agg #[.int .i64 12,.int .i64 176,.int .i64 0,.int .i64 0,.slice dA 13 dc,.int .i64 65536],.agg #[.slice X1 16 x1,.slice X2 16 x2,.int .i64 1],.int .i64 0]/\Bs w1 w1.heap.size (.slice dA 13 dc) b/\Bs w1 w1.heap.size (.slice X1 16 x1) Z16/\Bs w1 w1.heap.size (.slice X2 16 x2) Z16:=hF 3 (hA 3 (by simp))
   exact m2o
  ·obtain⟨dA,dc,X1,x1,X2,x2,e3,h0,h1,h2⟩:∃dA dc X1 x1 X2 x2,v 3=.tuple #[.agg #[.int .i64 12,.int .i64 176,.int .i64 0,.int .i64 0,.slice dA 13 dc,.int .i64 65536],.agg #[.slice X1 16 x1,.slice X2 16 x2,.int .i64 1],.int .i64 0]/\Bs w1 w1.heap.size (.slice dA 13 dc) b/\Bs w1 w1.heap.size (.slice X1 16 x1) Z16/\Bs w1 w1.heap.size (.slice X2 16 x2) Z16:=hF 3 (hA 3 (by simp))
   exact m35
  ·exact m3n
  ·exact m3o
  ·obtain⟨q,e7,hq0,hq1,hrow⟩:=hJ.2.1 hL (hA 7 (by simp))
   obtain⟨dA,dc,e4,hd⟩:∃dA dc,v 4=_/\_:=hF 4 (hA 4 (by simp))
   simp only [e7,e4]at hK |-
   obtain⟨z0,z1,z2,z3,z4,z5,zf⟩:=j8 hrow
   have zf0:=zf 0;have zf1:=zf 1;have zf2:=zf 2;have zf3:=zf 3;have zf4:=zf 4;have zf5:=zf 5
   clear zf
   go_simp
   exact hK undef _ (hJ.store6 hq0 hrow (by decide) (by decide) (by decide)) (RZ2.set6 hrow _ _ _ _ _ _) ⟨q,dA,dc,e7,hq0,zz _ _ _ _ _ _ hrow,hd.rz2 (RZ2.set6 (w0:=w1r) hrow _ _ _ _ _ _)⟩
  ·obtain⟨q,e8,hq0,hq1,hrow⟩:=hJ.2.2 hL (hA 8 (by simp))
   obtain⟨X1,x1,X2,x2,e5,h1,h2⟩:∃X1 x1 X2 x2,v 5=.agg #[.slice X1 16 x1,.slice X2 16 x2,.int .i64 1]/\Bs w1 w1.heap.size (.slice X1 16 x1) Z16/\Bs w1 w1.heap.size (.slice X2 16 x2) Z16:=hF 5 (hA 5 (by simp))
   simp only [e8,e5]at hK |-
   obtain⟨z0,z1,z2,zf⟩:=j7 hrow
   have zf0:=zf 0;have zf1:=zf 1;have zf2:=zf 2
   clear zf
   go_simp
   exact hK undef _ (hJ.store3 hq0 hrow (by decide) (by decide) (by decide)) (RZ2.set3 hrow _ _ _) ⟨q,X1,x1,X2,x2,e8,hq0,qa _ _ _ hrow,h1.rz2 (RZ2.set3 (w0:=w1r) hrow _ _ _),h2.rz2 (RZ2.set3 (w0:=w1r) hrow _ _ _)⟩
  ·exact m22
 case tail2=>
  intro v w1 hJ hF
  have e1:v 1=_:=hF 1 (by simp)
  have e6:v 6=_:=hF 6 (by simp)
  have e11:v 11=_:=hF 11 (by simp)
  obtain⟨qc2,dA2,dc2,e7,hqc,hrc,hdc⟩:∃q dA dc,v 7=.pointer (some ⟨q,0,none⟩)/\w1r.heap.size<=q/\w1.heap[q]?=some (.cells #[.int .i64 12,.int .i64 176,.int .i64 0,.int .i64 0,.slice dA 13 dc,.int .i64 65536] 32 (0,0))/\Bs w1 w1.heap.size (.slice dA 13 dc) b:=hF 9 (by simp)
  obtain⟨qs2,X1,x1,X2,x2,e8,hqs,hrs,hx1,hx2⟩:∃q X1 x1 X2 x2,v 8=.pointer (some ⟨q,0,none⟩)/\w1r.heap.size<=q/\w1.heap[q]?=some (.cells #[.slice X1 16 x1,.slice X2 16 x2,.int .i64 1] 29 (0,0))/\Bs w1 w1.heap.size (.slice X1 16 x1) Z16/\Bs w1 w1.heap.size (.slice X2 16 x2) Z16:=hF 10 (by simp)
  simp only [List.drop_succ_cons,List.drop_zero,jf,Act.put,Nat.zero_add,Nat.reduceAdd,List.setIfInBounds_toArray,List.set_cons_zero,List.set_cons_succ]
  simp only [e7,e8,e11]
  clear e1 e6 e7 e8 e11
  obtain⟨w2r,hw2⟩:∃w2r,w2r=w1:=⟨_,rfl⟩
  rw [<-hw2]at hJ hrc hrs hdc |-
  have HRC2:=iH hrc;have HRS2:=iH hrs;have HD2:=iH hdc
  have HBW2:=iH (HBW1.out.trans (hJ.1.mono HBW1.out.size))
  clear hJ hF hrc hrs hdc hx1 hx2 hqc hqs hw2
  go_upto_region 3 with fail
  refine jc 12 [some 17,some 18,some 19,some 16,some 20,some 21,some 22,some 5,some 6,none,none,some 7] [[],[],[0,1],[0,1,2],[0,1,2,3],[0,1,2,3],[0,1,2,3],[],[],[0,1,2,3,4,7,8],[0,1,2,3,4,5,7,8,9],[0,1,2,3,4,5,6,7,8,9,10]]
   (JZ2 w2r 7 9 8 10) (RZ2 w2r)
   [fun v w1=>∃X1 x1 X2 x2,v 0=.agg #[.slice X1 16 x1,.slice X2 16 x2,.int .i64 0]/\Bs w1 w1.heap.size (.slice X1 16 x1) Z16/\Bs w1 w1.heap.size (.slice X2 16 x2) Z16,
    fun v _=>v 1=.agg #[.int .i64 12,.int .i64 176,.int .i64 0,.int .i64 0,.slice dA2 13 dc2,.int .i64 65536],
    fun v w1=>∃dA dc X1 x1 X2 x2,v 2=.tuple #[.agg #[.int .i64 0,.int .i64 176,.int .i64 0,.int .i64 0,.slice dA 0 dc,.int .i64 8],.agg #[.slice X1 16 x1,.slice X2 16 x2,.int .i64 1],.int .i64 0]/\Bs w1 w1.heap.size (.slice dA 0 dc) []/\Bs w1 w1.heap.size (.slice X1 16 x1) Z16/\Bs w1 w1.heap.size (.slice X2 16 x2) Z16,
    fun v w1=>∃dA dc X1 x1 X2 x2,v 3=.tuple #[.agg #[.int .i64 0,.int .i64 176,.int .i64 0,.int .i64 0,.slice dA 0 dc,.int .i64 8],.agg #[.slice X1 16 x1,.slice X2 16 x2,.int .i64 1],.int .i64 0]/\Bs w1 w1.heap.size (.slice dA 0 dc) []/\Bs w1 w1.heap.size (.slice X1 16 x1) Z16/\Bs w1 w1.heap.size (.slice X2 16 x2) Z16,
    fun v w1=>∃dA dc,v 4=.agg #[.int .i64 0,.int .i64 176,.int .i64 0,.int .i64 0,.slice dA 0 dc,.int .i64 8]/\Bs w1 w1.heap.size (.slice dA 0 dc) [],
    fun v w1=>∃X1 x1 X2 x2,v 5=.agg #[.slice X1 16 x1,.slice X2 16 x2,.int .i64 1]/\Bs w1 w1.heap.size (.slice X1 16 x1) Z16/\Bs w1 w1.heap.size (.slice X2 16 x2) Z16,
    fun v _=>v 6=.int .i64 0,
    fun v w1=>True,
    fun v w1=>True,
    fun v w1=>∃q dA dc,v 7=.pointer (some ⟨q,0,none⟩)/\w2r.heap.size<=q/\w1.heap[q]?=some (.cells #[.int .i64 0,.int .i64 176,.int .i64 0,.int .i64 0,.slice dA 0 dc,.int .i64 8] 32 (0,0))/\Bs w1 w1.heap.size (.slice dA 0 dc) [],
    fun v w1=>∃q X1 x1 X2 x2,v 8=.pointer (some ⟨q,0,none⟩)/\w2r.heap.size<=q/\w1.heap[q]?=some (.cells #[.slice X1 16 x1,.slice X2 16 x2,.int .i64 1] 29 (0,0))/\Bs w1 w1.heap.size (.slice X1 16 x1) Z16/\Bs w1 w1.heap.size (.slice X2 16 x2) Z16,
    fun v _=>v 11=.int .i64 0]
   (by kernel_rfl) (by kernel_rfl) (fun _=>JZ2.start) ?st3 ?steps3 ?tail3
  case st3=>
   exact m0s
  case steps3=>
   simp only [List.take_succ_cons,List.take_zero]
   refine(.cons ?_ (.cons ?_ (.cons ?_ (.cons ?_ (.cons ?_ (.cons ?_ (.cons ?_ (.cons ?_ (.cons ?_ (.cons ?_ (.cons ?_ (.cons ?_ .nil))))))))))))
   all_goals(intro L v w1 hJ hL hA hF K hK;simp only [jf,Act.put,Nat.zero_add,Nat.reduceAdd,List.setIfInBounds_toArray,List.set_cons_zero,List.set_cons_succ]at hK |-)
   ·exact m21
   ·obtain⟨c0,c1,c2,c3,c4,c5,_⟩:=j8 ((hJ.1.block qc2 (iG HRC2.out)).trans HRC2.out)
    exact m2z
   ·have e1:v 1=_:=hF 1 (hA 1 (by simp))
    simp only [e1]at hK
    obtain⟨X1,x1,X2,x2,e0,h1,h2⟩:∃X1 x1 X2 x2,v 0=.agg #[.slice X1 16 x1,.slice X2 16 x2,.int .i64 0]/\Bs w1 w1.heap.size (.slice X1 16 x1) Z16/\Bs w1 w1.heap.size (.slice X2 16 x2) Z16:=hF 0 (hA 0 (by simp))
    simp only [e0]at hK
    go_simp
    refine(HUN.out (.slice X1 16 x1) (.slice X2 16 x2) (.slice dA2 13 dc2) w1 h1 h2 (HD2.out.lift hJ.1)).mono ?_
    rintro e w5 ⟨cv,sv,rfl,⟨dd,rfl,hd⟩,⟨y1,y2,rfl,g1,g2⟩,hb⟩
    obtain⟨dA,dc,hp⟩:∃A c,dd=.slice A 0 c:=(by obtain⟨a,c,e,_⟩:=hd;exact⟨a,c,by rw [e,LD3.out]⟩)
    exact m17
   ·obtain⟨dA,dc,X1,x1,X2,x2,e2,h0,h1,h2⟩:∃dA dc X1 x1 X2 x2,v 2=.tuple #[.agg #[.int .i64 0,.int .i64 176,.int .i64 0,.int .i64 0,.slice dA 0 dc,.int .i64 8],.agg #[.slice X1 16 x1,.slice X2 16 x2,.int .i64 1],.int .i64 0]/\Bs w1 w1.heap.size (.slice dA 0 dc) []/\Bs w1 w1.heap.size (.slice X1 16 x1) Z16/\Bs w1 w1.heap.size (.slice X2 16 x2) Z16:=hF 2 (hA 2 (by simp))
    exact m2h
   ·obtain⟨dA,dc,X1,x1,X2,x2,e3,h0,h1,h2⟩:∃dA dc X1 x1 X2 x2,v 3=.tuple #[.agg #[.int .i64 0,.int .i64 176,.int .i64 0,.int .i64 0,.slice dA 0 dc,.int .i64 8],.agg #[.slice X1 16 x1,.slice X2 16 x2,.int .i64 1],.int .i64 0]/\Bs w1 w1.heap.size (.slice dA 0 dc) []/\Bs w1 w1.heap.size (.slice X1 16 x1) Z16/\Bs w1 w1.heap.size (.slice X2 16 x2) Z16:=hF 3 (hA 3 (by simp))
    exact m2t
   ·obtain⟨dA,dc,X1,x1,X2,x2,e3,h0,h1,h2⟩:∃dA dc X1 x1 X2 x2,v 3=.tuple #[.agg #[.int .i64 0,.int .i64 176,.int .i64 0,.int .i64 0,.slice dA 0 dc,.int .i64 8],.agg #[.slice X1 16 x1,.slice X2 16 x2,.int .i64 1],.int .i64 0]/\Bs w1 w1.heap.size (.slice dA 0 dc) []/\Bs w1 w1.heap.size (.slice X1 16 x1) Z16/\Bs w1 w1.heap.size (.slice X2 16 x2) Z16:=hF 3 (hA 3 (by simp))
    exact m2o
   ·obtain⟨dA,dc,X1,x1,X2,x2,e3,h0,h1,h2⟩:∃dA dc X1 x1 X2 x2,v 3=.tuple #[.agg #[.int .i64 0,.int .i64 176,.int .i64 0,.int .i64 0,.slice dA 0 dc,.int .i64 8],.agg #[.slice X1 16 x1,.slice X2 16 x2,.int .i64 1],.int .i64 0]/\Bs w1 w1.heap.size (.slice dA 0 dc) []/\Bs w1 w1.heap.size (.slice X1 16 x1) Z16/\Bs w1 w1.heap.size (.slice X2 16 x2) Z16:=hF 3 (hA 3 (by simp))
    exact m35
   ·exact m3n
   ·exact m3o
   ·obtain⟨q,e7,hq0,hq1,hrow⟩:=hJ.2.1 hL (hA 7 (by simp))
    obtain⟨dA,dc,e4,hd⟩:∃dA dc,v 4=_/\_:=hF 4 (hA 4 (by simp))
    simp only [e7,e4]at hK |-
    obtain⟨z0,z1,z2,z3,z4,z5,zf⟩:=j8 hrow
    have zf0:=zf 0;have zf1:=zf 1;have zf2:=zf 2;have zf3:=zf 3;have zf4:=zf 4;have zf5:=zf 5
    clear zf
    go_simp
    exact hK undef _ (hJ.store6 hq0 hrow (by decide) (by decide) (by decide)) (RZ2.set6 hrow _ _ _ _ _ _) ⟨q,dA,dc,e7,hq0,zz _ _ _ _ _ _ hrow,hd.rz2 (RZ2.set6 (w0:=w2r) hrow _ _ _ _ _ _)⟩
   ·obtain⟨q,e8,hq0,hq1,hrow⟩:=hJ.2.2 hL (hA 8 (by simp))
    obtain⟨X1,x1,X2,x2,e5,h1,h2⟩:∃X1 x1 X2 x2,v 5=.agg #[.slice X1 16 x1,.slice X2 16 x2,.int .i64 1]/\Bs w1 w1.heap.size (.slice X1 16 x1) Z16/\Bs w1 w1.heap.size (.slice X2 16 x2) Z16:=hF 5 (hA 5 (by simp))
    simp only [e8,e5]at hK |-
    obtain⟨z0,z1,z2,zf⟩:=j7 hrow
    have zf0:=zf 0;have zf1:=zf 1;have zf2:=zf 2
    clear zf
    go_simp
    exact hK undef _ (hJ.store3 hq0 hrow (by decide) (by decide) (by decide)) (RZ2.set3 hrow _ _ _) ⟨q,X1,x1,X2,x2,e8,hq0,qa _ _ _ hrow,h1.rz2 (RZ2.set3 (w0:=w2r) hrow _ _ _),h2.rz2 (RZ2.set3 (w0:=w2r) hrow _ _ _)⟩
   ·exact m22
  case tail3=>
   intro v w1 hJ hF
   have e1:v 1=_:=hF 1 (by simp)
   have e6:v 6=_:=hF 6 (by simp)
   have e11:v 11=_:=hF 11 (by simp)
   obtain⟨qc3,dA3,dc3,e7,hqc,hrc,hdc⟩:∃q dA dc,v 7=.pointer (some ⟨q,0,none⟩)/\w2r.heap.size<=q/\w1.heap[q]?=some (.cells #[.int .i64 0,.int .i64 176,.int .i64 0,.int .i64 0,.slice dA 0 dc,.int .i64 8] 32 (0,0))/\Bs w1 w1.heap.size (.slice dA 0 dc) []:=hF 9 (by simp)
   obtain⟨qs3,X1,x1,X2,x2,e8,hqs,hrs,hx1,hx2⟩:∃q X1 x1 X2 x2,v 8=.pointer (some ⟨q,0,none⟩)/\w2r.heap.size<=q/\w1.heap[q]?=some (.cells #[.slice X1 16 x1,.slice X2 16 x2,.int .i64 1] 29 (0,0))/\Bs w1 w1.heap.size (.slice X1 16 x1) Z16/\Bs w1 w1.heap.size (.slice X2 16 x2) Z16:=hF 10 (by simp)
   simp only [List.drop_succ_cons,List.drop_zero,jf,Act.put,Nat.zero_add,Nat.reduceAdd,List.setIfInBounds_toArray,List.set_cons_zero,List.set_cons_succ]
   simp only [e7,e8,e11]
   clear e1 e6 e7 e8 e11
   obtain⟨w3r,hw3⟩:∃w3r,w3r=w1:=⟨_,rfl⟩
   rw [<-hw3]at hJ hrc hrs |-
   obtain⟨y0,y1,y2,_⟩:=j7 hrs
   obtain⟨z0,z1,z2,z3,z4,z5,_⟩:=j8 hrc
   obtain⟨x0,x1',x2',x3,x4,x5,_⟩:=j8 ((hJ.1.block qc2 (iG HRC2.out)).trans HRC2.out)
   obtain⟨u0,u1,u2,_⟩:=j7 ((hJ.1.block qs2 (iG HRS2.out)).trans HRS2.out)
   have HB3:=iH (HBW2.out.trans (hJ.1.mono HBW2.out.size))
   clear hJ hF hrc hrs hdc hx1 hx2 hqc hqs hw3
   go_wp2_with fail
   go_ret
   exact⟨rfl,HB3.out⟩
end Go.Proofs.YtadndhgebgjlaaaGreat
