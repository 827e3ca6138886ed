/- A region that draws, in which some operations follow each other in one order and the others only read what stands: what holds behind each of those that follo... -/
import Derived.Test.YtadndhgebgjlaaaGreatPBj
set_option linter.all false
set_option maxRecDepth 100000
set_option maxHeartbeats 1000000
namespace Go.Proofs.YtadndhgebgjlaaaGreat
open Go.RowKit Go.Deep
theorem mS{P:Prop}(h:P:=by
 go_enter Tryz.func101,Tryz.ntmps101
 go_upto_region 1 with fail
 rw [<-HW0.out]
 obtain⟨c0,c1⟩:=CS.out w0 iB
 go_wp2_with fail
 go_ret2
 rw [R.out]
 exact⟨_,rfl,HB.out⟩):P:=h
theorem m37{P:Prop}(h:P:=by
 rcases hp with h0|h0
 ·omega
 ·have e2:=h2 (k - 1) (by omega)
  rw [h0]at e2
  have:=of_decide_eq_true e2.symm
  omega):P:=h
theorem m45{P:Prop}(h:P:=by
 rw [World.cell?_of_block (a:=⟨b,off+j,none⟩) hb];exact hc j hj):P:=h
def JC(ch:List Nat)(G:Nat->(Nat->Value)->World->Prop)(L:Nat->Bool)(v:Nat->Value)(w:World):Prop:=
 ∃k,k<=ch.length/\(∀j,j<ch.length->L (ch.getD j 0)=decide (j<k))/\G k (fun j=>if j<k then v (ch.getD j 0)else undef) w
section
variable {ch:List Nat} {G:Nat->(Nat->Value)->World->Prop} {L:Nat->Bool} {v:Nat->Value} {w w2:World} {y:Value}
theorem j25{ch:List Nat}{j:Nat}(h:j<ch.length):ch.getD j 0∈ch:=by
 rw [List.getD_eq_getElem?_getD,List.getElem?_eq_getElem h]
 exact List.getElem_mem _
theorem JC.start(h:G 0 (fun _=>undef) w):JC ch G (fun _=>false) v w:=
 ⟨0,Nat.zero_le _,fun j _=>by simp,by simpa using h⟩
theorem JC.inv{I:World->Prop}(hI:∀k u w,G k u w->I w)(h:JC ch G L v w):I w:=by
 obtain⟨k,_,_,h⟩:=h
 exact hI _ _ _ h
theorem JC.same(h:JC ch G L v w)(i:Nat)(hi:ch.contains i=false):JC ch G (ji L i) (jy v i y) w:=by
 obtain⟨k,h1,h2,h3⟩:=h
 have hne:∀j,j<ch.length->ch.getD j 0≠i:=fun j hj e=>by
  have:=j25 hj
  rw [e]at this
  simp [this]at hi
 refine⟨k,h1,fun j hj=> ?_,?_⟩
 ·unfold ji
  rw [iF (hne j hj)]
  exact h2 j hj
 ·have e:(fun j=>if j<k then jy v i y (ch.getD j 0)else undef)=fun j=>if j<k then v (ch.getD j 0)else undef:=by
   funext j
   split
   ·rename_i hj
    unfold jy
    rw [iF (hne j (by omega))]
   ·rfl
  rw [e]
  exact h3
theorem JC.at_(h:JC ch G L v w)(k:Nat)(hk:k<ch.length)(hL:L (ch.getD k 0)=false)(hp:k=0\/L (ch.getD (k - 1) 0)=true):G k (fun j=>if j<k then v (ch.getD j 0)else undef) w:=by
 obtain⟨k',h1,h2,h3⟩:=h
 have e1:=h2 k hk
 rw [hL]at e1
 have e1:=of_decide_eq_false e1.symm
 have:k'=k:=by
  exact m37
 subst this
 exact h3
theorem KO{ch:List Nat}(h:ch.Nodup){i j:Nat}(hi:i<ch.length)(hj:j<ch.length)(e:ch.getD i 0=ch.getD j 0):i=j:=by
 rw [List.getD_eq_getElem?_getD,List.getD_eq_getElem?_getD,List.getElem?_eq_getElem hi,List.getElem?_eq_getElem hj]at e
 exact(List.getElem_inj h).1 e
theorem JC.next(h:JC ch G L v w)(k:Nat)(hk:k<ch.length)(hL:L (ch.getD k 0)=false)(hp:k=0\/L (ch.getD (k - 1) 0)=true)(hn:ch.Nodup)(hG:G (k+1) (fun j=>if j<k then v (ch.getD j 0)else if j=k then y else undef) w2):JC ch G (ji L (ch.getD k 0)) (jy v (ch.getD k 0) y) w2:=by
 obtain⟨k',h1,h2,_⟩:=h
 have e1:=h2 k hk
 rw [hL]at e1
 have e1:=of_decide_eq_false e1.symm
 have hkk:k'=k:=by
  exact m37
 subst hkk
 refine⟨k'+1,hk,fun j hj=> ?_,?_⟩
 ·by_cases hjk:j=k'
  ·subst hjk
   unfold ji
   rw [iT rfl]
   exact(decide_eq_true (by omega)).symm
  ·have:ch.getD j 0≠ch.getD k' 0:=fun e=>hjk (KO hn hj hk e)
   unfold ji
   rw [iF this,h2 j hj]
   rw [Bool.eq_iff_iff,decide_eq_true_eq,decide_eq_true_eq]
   omega
 ·have e:(fun j=>if j<k'+1 then jy v (ch.getD k' 0) y (ch.getD j 0)else undef)=fun j=>if j<k' then v (ch.getD j 0)else if j=k' then y else undef:=by
   funext j
   by_cases hjk:j=k'
   ·subst hjk
    rw [iT (by omega),iF (by omega),iT rfl]
    unfold jy
    rw [iT rfl]
   ·by_cases hlt:j<k'
    ·rw [iT (by omega),iT hlt]
     have:ch.getD j 0≠ch.getD k' 0:=fun e=>hjk (KO hn (by omega) hk e)
     unfold jy
     rw [iF this]
    ·rw [iF (by omega),iF hlt,iF hjk]
  rw [e]
  exact hG
theorem JC.fin(h:JC ch G L v w)(hL:∀j,j<ch.length->L (ch.getD j 0)=true):G ch.length (fun j=>if j<ch.length then v (ch.getD j 0)else undef) w:=by
 obtain⟨k,h1,h2,h3⟩:=h
 have:k=ch.length:=by
  rcases Nat.lt_or_ge k ch.length with hk|hk
  ·have e:=h2 k hk
   rw [hL k hk]at e
   have:=of_decide_eq_true e.symm
   omega
  ·omega
 subst this
 exact h3
end
theorem jd{w:World}{p:Nat}{a b:Value}{t:TypeId}(h:w.heap[p]?=some (.cells #[a,b] t (0,0))):
 w.cell? ⟨p,0,none⟩=some a/\w.cell? ⟨p,1,none⟩=some b/\∀o,w.frozen? ⟨p,o,none⟩=false:=by
 have key:∀o v,#[a,b][o]?=some v->w.cell? ⟨p,o,none⟩=some v:=fun o v e=>by rw [cell_of_row _ _ _ _ _ _ h];exact e
 exact⟨key 0 _ rfl,key 1 _ rfl,fun o=>by simp [World.frozen?,h]⟩
def qm(w:World)(g:Nat)(a b:Value):World:=(w.setCell ⟨g,0,none⟩ a).setCell ⟨g,1,none⟩ b
theorem YJ{w:World}{g:Nat}{x y:Value}{t:TypeId}(a b:Value)(h:w.heap[g]?=some (.cells #[x,y] t (0,0))):(qm w g a b).heap[g]?=some (.cells #[a,b] t (0,0)):=jg (o:=1) (jg (o:=0) h)
theorem kz{w:World}{g j:Nat}{a b:Value}(h:j≠g):(qm w g a b).heap[j]?=w.heap[j]? :=by
 unfold qm
 rw [iO (by exact h),iO (by exact h)]
theorem UK{w w':World}{B g:Nat}{a b:Value}(h:Below B w w')(hg:B<=g):Below B w (qm w' g a b):=(h.setCell hg _).setCell hg _
theorem yB(w:World)(g:Nat)(a b:Value):(qm w g a b).heap.size=w.heap.size:=by simp [qm]
theorem j88{f:Int}{A:Option Addr}{n k:Nat}:noB #[.slice A n k,.int .i64 f]:=by
 intro i x
 rcases i with _|_|i
 all_goals
  simp
theorem jo{W:World}{p:Nat}{t t':TypeId}{x0 x1 y0 y1 y2:Value}(h2:W.heap[p]?=some (.cells #[x0,x1] t (0,0)))(h3:W.heap[p+1]?=some (.cells #[y0,y1,y2] t' (0,0)))(a b x y z:Value):
 (set3 (qm W p a b) (p+1) x y z).heap[p]?=some (.cells #[a,b] t (0,0))/\(set3 (qm W p a b) (p+1) x y z).heap[p+1]?=some (.cells #[x,y,z] t' (0,0)):=
 ⟨(jC (by omega)).trans (YJ _ _ h2),qa _ _ _ ((kz (by omega)).trans h3)⟩
theorem yG{W:World}{p:Nat}{t t':TypeId}{f0 k0:Int}{A B C:Option Addr}{n m q i j l:Nat}(h2:W.heap[p]?=some (.cells #[.slice A n i,.int .i64 f0] t (0,0)))(h3:W.heap[p+1]?=some (.cells #[.slice B m j,.slice C q l,.int .i64 k0] t' (0,0)))(a b x y z:Value){v:Value}{L:List UInt8}(hv:Bs W W.heap.size v L):Bs (set3 (qm W p a b) (p+1) x y z) (set3 (qm W p a b) (p+1) x y z).heap.size v L:=
 BsS.keep ((hv.off h2 j88).off h3 (j5e B C m q j l k0)) fun g hs _=>⟨(jC hs.2).trans (kz hs.1.2),by rw [kW,yB];exact hs.1.1⟩
theorem jj{W w:World}{B p:Nat}{a b x y z:Value}(h:Below B w W)(hp:B<=p):Below B w (set3 (qm W p a b) (p+1) x y z):=kV (UK h hp) (by omega)
def J2(wd:World)(p s:Nat)(a b:Value)(L:Nat->Bool)(_:Nat->Value)(w1:World):Prop:=w1=if L s=true then qm wd p a b else wd
section
variable {wd w1:World} {p s:Nat} {a b:Value} {L:Nat->Bool} {v v':Nat->Value}
section
variable(h:J2 wd p s a b L v w1)
include h
theorem J2.step(i:Nat)(hi:s≠i):J2 wd p s a b (ji L i) v' w1:=by
 exact m3i
theorem J2.store(hL:L s=false):J2 wd p s a b (ji L s) v' (qm w1 p a b):=by
 have hq:ji L s s=true:=by unfold ji;exact iT rfl
 have h2:w1=if L s=true then qm wd p a b else wd:=h
 rw [hL]at h2
 have h3:w1=wd:=h2
 show qm w1 p a b=if ji L s s=true then _ else _
 rw [hq,h3]
 exact(iT rfl).symm
theorem J2.row{j:Nat}(hj:j≠p):w1.heap[j]?=wd.heap[j]? :=by
 unfold J2 at h
 split at h
 ·rw [h];exact kz hj
 ·rw [h]
theorem J2.old(hL:L s=false):w1=wd:=by
 unfold J2 at h
 rw [hL]at h
 exact h
theorem J2.all(hL:L s=true):w1=qm wd p a b:=by
 unfold J2 at h
 rw [hL]at h
 exact h
end
end
def vR(d:List UInt8)(st:Int):Bool:=decide (d.length<=4096/\0<=st/\st<=65535)
def Y8(r:Int×List UInt8×Int×List UInt8×List UInt8×Int)(w:World)(e:Ending)(w':World):Prop:=
 ∃v s,e=.returned (.tuple #[v,s,.int .i64 r.1])/\QU w' (·<w'.heap.size) v r.2.1 r.2.2.1/\qs w' (·<w'.heap.size) s r.2.2.2.1 r.2.2.2.2.1 r.2.2.2.2.2/\Below w.heap.size w w'
theorem Uy{w w':World}{base:Nat}{v:Value}{l:List UInt8}(h:OwnB w base v l)(hb:Below w.heap.size w w'):OwnB w' base v l:=by
 refine⟨h.1,?_⟩
 rcases h.2 with h0|⟨g,cap,cur,hv,hb',hh,r⟩
 ·exact .inl h0
 ·exact .inr ⟨g,cap,cur,hv,hb',(hb.block g (iG hh)).trans hh,r⟩
theorem j07{w:World}{base base':Nat}{v:Value}{l:List UInt8}(h:OwnB w base' v l)(hb:base<=base'):OwnB w base v l:=by
 refine⟨h.1,?_⟩
 rcases h.2 with h0|⟨g,cap,cur,hv,hb',r⟩
 ·exact .inl h0
 ·exact .inr ⟨g,cap,cur,hv,Nat.le_trans hb hb',r⟩
def JO(d:List UInt8)(st:Int):Int:=if 4096<d.length then 2 else if st<0\/65535<st then 3 else 0
theorem Zq(k:Int)(w:World)(h0:0<=k)(h1:k<65536):Calls Tryz.prog 125 #[.int .i64 k,.int .i64 2] w fun e w'=>∃v',e=.returned v'/\OwnB w' w.heap.size v' (zI k)/\Below w.heap.size w w':=by
 have HC:=iH (Qw k w h0 h1)
 have em:k.tmod 65536=k:=Int.tmod_eq_of_lt h0 h1
 obtain⟨X2,hX2⟩:∃X,zI k=X:=⟨_,rfl⟩
 rw [hX2]at HC |-
 clear hX2
 go_enter Tryz.func125,Tryz.ntmps125
 go_wp2_with(go_at_call 51;refine HC.out.mono ?_;rintro e w1 ⟨v1,rfl,ho,hb⟩;have HO:=iH ho;have HB:=iH hb;clear ho hb)
 go_ret
 exact⟨_,rfl,HO.out,HB.out⟩
section
variable(v:Value)(d:List UInt8)(st:Int)(w:World)(h:QU w (·<w.heap.size) v d st)
include v d st w h
theorem VN:Calls Tryz.prog 101 #[v] w fun e w'=>∃v',e=.returned (.tuple #[v',.int .i64 (JO d st)])/\Below w.heap.size w w':=by
 obtain⟨u,rfl,hd⟩:=h
 obtain⟨A,m,dc,rfl⟩:=hd.form
 obtain rfl:=Bs.lenEq hd
 obtain⟨w0,hw0⟩:∃w0,w0=w.alloc (.cells #[.slice A d.length dc,.int .i64 st] 44):=⟨_,rfl⟩
 have hB0:Below w.heap.size w w0:=by rw [hw0];exact iA
 have hh0:w0.heap[w.heap.size]?=some (.cells #[.slice A d.length dc,.int .i64 st] 44 (0,0)):=by rw [hw0];exact iN
 have hlt0:=(iG hh0)
 have CS:Hid (∀W,Below w0.heap.size w0 W->W.cell? ⟨w.heap.size,0,none⟩=some (.slice A d.length dc)/\W.cell? ⟨w.heap.size,1,none⟩=some (.int .i64 st)):=iH fun W h=>(by obtain⟨a,b,_⟩:=jd ((h.block w.heap.size hlt0).trans hh0);exact⟨a,b⟩)
 have HB:=iH hB0;have HW0:=iH hw0;have HD:=iH (Bs.lift hd hB0)
 clear hd hB0 hw0 hh0 hlt0
 by_cases h1:4096<d.length
 ·have R:Hid (JO d st=2):=iH (iT h1)
  have t1:decide ((d.length:Int)>4096)=true:=decide_eq_true (by omega)
  clear h1
  exact mS
 ·have t1:decide ((d.length:Int)>4096)=false:=decide_eq_false (by omega)
  by_cases h2:st<0
  ·have R:Hid (JO d st=3):=iH (by unfold JO;rw [iF h1,iT (.inl h2)])
   have t2:decide (st<0)=true:=decide_eq_true h2
   clear h1 h2
   exact mS
  ·have t2:decide (st<0)=false:=decide_eq_false h2
   by_cases h3:st>65535
   ·have R:Hid (JO d st=3):=iH (by unfold JO;rw [iF h1,iT (.inr h3)])
    have t3:decide (st>65535)=true:=decide_eq_true h3
    clear h1 h2 h3
    exact mS
   ·have R:Hid (JO d st=0):=iH (by unfold JO;rw [iF h1,iF (by omega)])
    have t3:decide (st>65535)=false:=decide_eq_false h3
    have LD:Hid (d.length<=4096):=iH (by omega)
    obtain⟨X2,hX2⟩:∃X,zI st=X:=⟨_,rfl⟩
    have LX:Hid (X2.length=2):=iH (by rw [<-hX2]<;>rfl)
    have HNM:Hid (∀w,Calls Tryz.prog 125 #[.int .i64 st,.int .i64 2] w fun e w'=>∃v',e=.returned v'/\OwnB w' w.heap.size v' X2/\Below w.heap.size w w'):=iH (fun w=>by rw [<-hX2];exact Zq st w (by omega) (by omega))
    clear h1 h2 h3 hX2
    go_enter Tryz.func101,Tryz.ntmps101
    go_upto_region 1 with fail
    rw [<-HW0.out]
    obtain⟨c0,c1⟩:=CS.out w0 iB
    go_upto_region 5 with fail
    clear c0 c1 t1 t2 t3
    refine jc 6 [some 18,some 19,some 20,some 21,some 22,some 23] [[],[0],[0,1],[],[3],[0,1,2,3,4]]
     (fun _ _ w1=>Below w0.heap.size w0 w1) (fun w1 w2=>Below w1.heap.size w1 w2)
     [fun v _=>v 0=.pointer (some ⟨w.heap.size,0,none⟩),
      fun v _=>v 1=.slice A d.length dc,
      fun v w1=>∃a c,v 2=.slice a d.length c/\OwnB w1 w0.heap.size (.slice a d.length c) d,
      fun v _=>v 3=.pointer (some ⟨w.heap.size,1,none⟩),
      fun v _=>v 4=.int .i64 st,
      fun v w1=>∃a c,v 5=.slice a (X2).length c/\BsS w1 (New w0 w1) (.slice a (X2).length c) (X2)]
     (by kernel_rfl) (by kernel_rfl) (fun _=>iB.drew) ?st ?steps ?tail
    case st=>
     exact(.cons (fun _ _ _ _ _ _ h=>h) (.cons (fun _ _ _ _ _ _ h=>h) (.cons (fun _ _ _ _ _ hr ⟨a,c,e,h⟩=>⟨a,c,e,Uy h hr⟩) (.cons (fun _ _ _ _ _ _ h=>h) (.cons (fun _ _ _ _ _ _ h=>h) (.cons (fun _ _ _ _ _ hr ⟨a,c,e,h⟩=>⟨a,c,e,BsS.keep h fun g hg hl=>⟨hr.block g hl,hg.1,iZ hl hr.size⟩⟩) .nil))))))
    case steps=>
     simp only [List.take_succ_cons,List.take_zero]
     refine(.cons ?_ (.cons ?_ (.cons ?_ (.cons ?_ (.cons ?_ (.cons ?_ .nil))))))
     all_goals(intro L v w1 hJ hL hA hF K hK;simp only [jf,Act.put,Nat.zero_add,Nat.reduceAdd,List.setIfInBounds_toArray,List.set_cons_zero,List.set_cons_succ]at hK |-)
     ·exact m6
     ·have e0:v 0=_:=hF 0 (hA 0 (by simp))
      obtain⟨c0,c1⟩:=CS.out _ hJ
      simp only [e0]at hK
      exact m6
     ·have e1:v 1=_:=hF 1 (hA 1 (by simp))
      simp only [e1]at hK
      go_simp
      refine(kR _ d w1 (HD.out.lift hJ)).mono ?_
      rintro e w5 ⟨v5,rfl,ho,hb⟩
      obtain⟨a5,c5,hp⟩:=ho.form
      subst hp
      exact hK _ _ (hJ.trans (hb.mono hJ.size)) hb ⟨_,_,rfl,j07 ho hJ.size⟩
     ·exact m6
     ·have e3:v 3=_:=hF 3 (hA 3 (by simp))
      obtain⟨c0,c1⟩:=CS.out _ hJ
      simp only [e3]at hK
      exact m6
     ·have e4:v 4=_:=hF 4 (hA 4 (by simp))
      simp only [e4]at hK
      go_simp
      refine(HNM.out w1).mono ?_
      rintro e w5 ⟨v5,rfl,ho,hb⟩
      have hx:BsS w5 (New w0 w5) v5 (X2):=(ho.out (by have:=LX.out;omega) w1 iL).keep fun g hg _=>⟨rfl,Nat.le_trans hJ.size hg.1,hg.2⟩
      exact m7
    case tail=>
     intro v w1 hJ hF
     have e0:v 0=_:=hF 0 (by simp)
     have e1:v 1=_:=hF 1 (by simp)
     have e3:v 3=_:=hF 3 (by simp)
     have e4:v 4=_:=hF 4 (by simp)
     obtain⟨a5,c5,e5,h5⟩:∃a c,v 5=_/\_:=hF 5 (by simp)
     obtain⟨a2,c2,e2,h2⟩:∃a c,v 2=_/\_:=hF 2 (by simp)
     simp only [List.drop_succ_cons,List.drop_zero,jf,Act.put,Nat.zero_add,Nat.reduceAdd,List.setIfInBounds_toArray,List.set_cons_zero,List.set_cons_succ]
     simp only [e2,e5]
     clear e0 e1 e2 e3 e4 e5
     have HS:=iH h5;have HO:=iH h2;have HJ:=iH hJ
     clear h5 h2 hJ hF
     go_wp2_with(at_builtin;(with_reducible refine je rfl (.tmp 20) (.tmp 23) rfl w0.heap.size (.slice a2 d.length c2) d rfl HO.out a5 X2.length c5 X2 (New w0 w1) rfl HS.out (by have:=LX.out;have:=LD.out;omega) HJ.out.size ?_);intro v3 w3 hgr;have HB3:=iH (hgr.2.1:Below w0.heap.size w1 w3);clear hgr)
     go_ret2
     rw [R.out]
     exact⟨_,rfl,HB.out.trans ((HJ.out.trans HB3.out).mono HB.out.size)⟩
theorem xj:Calls Tryz.prog 76 #[v] w fun e w'=>e=.returned (.bool (vR d st))/\Below w.heap.size w w':=by
 obtain⟨u,rfl,hd⟩:=h
 obtain⟨A,m,dc,rfl⟩:=hd.form
 obtain rfl:=Bs.lenEq hd
 obtain⟨w0,hw0⟩:∃w0,w0=w.alloc (.cells #[.slice A d.length dc,.int .i64 st] 44):=⟨_,rfl⟩
 have hB0:Below w.heap.size w w0:=by rw [hw0];exact iA
 have hh0:w0.heap[w.heap.size]?=some (.cells #[.slice A d.length dc,.int .i64 st] 44 (0,0)):=by rw [hw0];exact iN
 have hlt0:=(iG hh0)
 obtain⟨c0,c1,_⟩:=jd hh0
 have HE:=iH (VN (.agg #[.slice A d.length dc,.int .i64 st]) d st w0 ⟨_,rfl,Bs.lift hd hB0⟩)
 have hq:(JO d st==0)=vR d st:=by
  unfold JO vR
  rw [Bool.eq_iff_iff,beq_iff_eq,decide_eq_true_eq]
  split
  ·omega
  ·split<;>omega
 have HB:=iH hB0;have HW0:=iH hw0
 clear hd hB0 hw0 hh0 hlt0
 obtain⟨E,hE⟩:∃E,JO d st=E:=⟨_,rfl⟩
 obtain⟨o,ho⟩:∃o,vR d st=o:=⟨_,rfl⟩
 rw [hE]at HE hq
 rw [ho]at hq |-
 clear hE ho
 go_enter Tryz.func76,Tryz.ntmps76
 go_upto_region 1 with fail
 rw [<-HW0.out]
 go_wp2_with(go_at_call 101;refine HE.out.mono ?_;rintro e w1 ⟨v1,rfl,hb⟩;have HB1:=iH hb;clear hb c0 c1)
 go_ret
 exact⟨rfl,HB.out.trans (HB1.out.mono HB.out.size)⟩
theorem xp:Calls Tryz.prog 44 #[v] w fun e w'=>e=.returned (.bool (vR d st))/\Below w.heap.size w w':=by
 obtain⟨u,rfl,hd⟩:=h
 obtain⟨A,m,dc,rfl⟩:=hd.form
 obtain rfl:=Bs.lenEq hd
 obtain⟨w0,hw0⟩:∃w0,w0=w.alloc (.cells #[.slice A d.length dc,.int .i64 st] 44):=⟨_,rfl⟩
 have hB0:Below w.heap.size w w0:=by rw [hw0];exact iA
 have hh0:w0.heap[w.heap.size]?=some (.cells #[.slice A d.length dc,.int .i64 st] 44 (0,0)):=by rw [hw0];exact iN
 have hlt0:=(iG hh0)
 obtain⟨c0,c1,_⟩:=jd hh0
 have HB:=iH hB0;have HW0:=iH hw0
 clear hd hB0 hw0 hh0 hlt0
 by_cases h1:d.length<=4096
 ·have t1:decide ((d.length:Int)<=4096)=true:=decide_eq_true (by omega)
  by_cases h2:st>=0
  ·have t2:decide (st>=0)=true:=decide_eq_true h2
   by_cases h3:st<=65535
   ·have R:Hid (vR d st=true):=iH (decide_eq_true ⟨h1,h2,h3⟩)
    have t3:decide (st<=65535)=true:=decide_eq_true h3
    clear h1 h2 h3
    go_enter Tryz.func44,Tryz.ntmps44
    go_upto_region 1 with fail
    rw [<-HW0.out]
    exact m9
   ·have R:Hid (vR d st=false):=iH (decide_eq_false fun h=>h3 h.2.2)
    have t3:decide (st<=65535)=false:=decide_eq_false h3
    clear h1 h2 h3
    go_enter Tryz.func44,Tryz.ntmps44
    go_upto_region 1 with fail
    rw [<-HW0.out]
    exact m9
  ·have R:Hid (vR d st=false):=iH (decide_eq_false fun h=>h2 h.2.1)
   have t2:decide (st>=0)=false:=decide_eq_false h2
   clear h1 h2
   go_enter Tryz.func44,Tryz.ntmps44
   go_upto_region 1 with fail
   rw [<-HW0.out]
   exact m9
 ·have R:Hid (vR d st=false):=iH (decide_eq_false fun h=>h1 h.1)
  have t1:decide ((d.length:Int)<=4096)=false:=decide_eq_false (by omega)
  clear h1
  go_enter Tryz.func44,Tryz.ntmps44
  go_upto_region 1 with fail
  rw [<-HW0.out]
  exact m9
end
theorem JT(st:Int)(h0:0<=st)(h1:st<=65535)(w:World):Calls Tryz.prog 77 #[.int .i64 st] w fun e w'=>∃A c,e=.returned (.agg #[.int .i64 153,.slice A (zI st).length c,.slice none 0 0])/\BsS w' (New w w') (.slice A (zI st).length c) (zI st)/\Below w.heap.size w w':=by
 obtain⟨w0,hw0⟩:∃w0,w0=w.alloc (.cells #[.int .i64 0,.slice none 0 0,.slice none 0 0] 61):=⟨_,rfl⟩
 have hB0:Below w.heap.size w w0:=by rw [hw0];exact iA
 have hh0:w0.heap[w.heap.size]?=some (.cells #[.int .i64 0,.slice none 0 0,.slice none 0 0] 61 (0,0)):=by rw [hw0];exact iN
 have hz:w0.heap.size=w.heap.size+1:=by rw [hw0];simp
 have HC:=iH (Qw st w0 h0 (by omega))
 obtain⟨X2,hX2⟩:∃X,zI st=X:=⟨_,rfl⟩
 rw [hX2]at HC |-
 have LX:Hid (X2.length=2):=iH (by rw [<-hX2]<;>rfl)
 have HB:=iH hB0;have HW0:=iH hw0;have HR:=iH hh0;have HZ:=iH hz
 clear hX2 hw0 hB0 hh0 hz h0 h1
 go_enter Tryz.func77,Tryz.ntmps77
 go_upto_region 1 with fail
 rw [<-HW0.out]
 go_wp2_with(go_at_call 51;refine HC.out.mono ?_;rintro e w1 ⟨v1,rfl,ho,hb⟩;obtain⟨A2,c2,hv1⟩:=ho.form;subst hv1;have HO:=iH ho;have HB1:=iH hb;have hr1:=(hb.block w.heap.size (by have:=HZ.out;omega)).trans HR.out;have HR1:=iH hr1;obtain⟨z0,z1,z2,zf⟩:=j7 hr1;have zf0:=zf 0;have zf1:=zf 1;have zf2:=zf 2;obtain⟨y0,y1,y2,_⟩:=j7 (qa (.int .i64 153) (.slice A2 X2.length c2) (.slice none 0 0) hr1);clear zf hr1 ho hb)
 refine bodyPost_ret (v:=.agg #[.int .i64 153,.slice A2 X2.length c2,.slice none 0 0]) (by simp only [set3]at y0 y1 y2;simp [results,Tryz.results77,go_sem,y0,y1,y2]) rfl ?_
 have hz:=HZ.out
 have ho:=HO.out.out (by have:=LX.out;omega) w0 iL
 exact⟨A2,c2,rfl,ho.keep fun g hg hl=>⟨jC (by have:=hg.1;omega),by have:=hg.1;omega,by simpa [set3]using hg.2⟩,kV (HB.out.trans (HB1.out.mono HB.out.size)) iL⟩
theorem qi(err:Int)(w:World):Calls Tryz.prog 78 #[.int .i64 err] w fun e w'=>e=.returned (.tuple #[.agg #[.slice none 0 0,.int .i64 0],.agg #[.slice none 0 0,.slice none 0 0,.int .i64 0],.int .i64 err])/\Below w.heap.size w w':=by
 obtain⟨w1,hw1⟩:∃w1,w1=w.alloc (.cells #[.slice none 0 0,.int .i64 0] 44):=⟨_,rfl⟩
 obtain⟨wa,hwa⟩:∃wa,wa=w1.alloc (.cells #[.slice none 0 0,.slice none 0 0,.int .i64 0] 29):=⟨_,rfl⟩
 have hz1:w1.heap.size=w.heap.size+1:=by rw [hw1];simp
 have b1:Below w.heap.size w w1:=by rw [hw1];exact iA
 have b2:Below w1.heap.size w1 wa:=by rw [hwa];exact iA
 have h2:wa.heap[w.heap.size]?=some (.cells #[.slice none 0 0,.int .i64 0] 44 (0,0)):=by rw [b2.block _ (by omega),hw1];exact iN
 have h3:wa.heap[w.heap.size+1]?=some (.cells #[.slice none 0 0,.slice none 0 0,.int .i64 0] 29 (0,0)):=by rw [hwa,<-hz1];exact iN
 have HB:=iH (b1.trans (b2.mono b1.size));have H2:=iH h2;have H3:=iH h3;have HW1:=iH hw1;have HWA:=iH hwa
 obtain⟨r0,r1,rf⟩:=jd h2
 have rf0:=rf 0;have rf1:=rf 1
 obtain⟨s0,s1,s2,sf⟩:=j7 h3
 have sf0:=sf 0;have sf1:=sf 1;have sf2:=sf 2
 clear rf sf h2 h3 b1 b2 hw1 hwa hz1
 go_enter Tryz.func78,Tryz.ntmps78
 go_upto_region 1 with fail
 rw [<-HW1.out,<-HWA.out]
 go_wp2_with fail
 obtain⟨q2,q3⟩:=jo H2.out H3.out (.slice none 0 0) (.int .i64 0) (.slice none 0 0) (.slice none 0 0) (.int .i64 0)
 obtain⟨y0,y1,_⟩:=jd q2
 obtain⟨x0,x1,x2,_⟩:=j7 q3
 refine bodyPost_ret (v:=.tuple #[.agg #[.slice none 0 0,.int .i64 0],.agg #[.slice none 0 0,.slice none 0 0,.int .i64 0],.int .i64 err]) (by simp only [qm,set3]at y0 y1 x0 x1 x2;simp [results,Tryz.results78,go_sem,y0,y1,x0,x1,x2]) rfl ?_
 exact⟨rfl,jj HB.out iL⟩
end Go.Proofs.YtadndhgebgjlaaaGreat
