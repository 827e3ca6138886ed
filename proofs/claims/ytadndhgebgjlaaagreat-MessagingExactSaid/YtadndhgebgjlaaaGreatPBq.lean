/- Words for responses; which of them can be handled; the status; failing; The worlds behind the entry of Reply and Open; messaging.Reply -/
import Derived.Test.YtadndhgebgjlaaaGreatPBg
import Derived.Test.YtadndhgebgjlaaaGreatPBp
set_option linter.all false
set_option maxRecDepth 100000
set_option maxHeartbeats 4000000
namespace Go.Proofs.YtadndhgebgjlaaaGreat
open Go.RowKit Go.Deep
theorem jd{w:World}{p:Nat}{a b:Value}{t:TypeId}(h:w.heap[p]?=some (.cells #[a,b] t (0,0))):
 w.cell? ⟨p,0,none⟩=some a/\w.cell? ⟨p,1,none⟩=some b/\∀o,w.frozen? ⟨p,o,none⟩=false:=by
 have key:∀o v,#[a,b][o]?=some v->w.cell? ⟨p,o,none⟩=some v:=fun o v e=>by rw [cell_of_row _ _ _ _ _ _ h];exact e
 exact⟨key 0 _ rfl,key 1 _ rfl,fun o=>by simp [World.frozen?,h]⟩
def qm(w:World)(g:Nat)(a b:Value):World:=(w.setCell ⟨g,0,none⟩ a).setCell ⟨g,1,none⟩ b
theorem j29{w:World}{g:Nat}{x y:Value}{t:TypeId}(a b:Value)(h:w.heap[g]?=some (.cells #[x,y] t (0,0))):(qm w g a b).heap[g]?=some (.cells #[a,b] t (0,0)):=jg (o:=1) (jg (o:=0) h)
theorem qe{w:World}{g j:Nat}{a b:Value}(h:j≠g):(qm w g a b).heap[j]?=w.heap[j]? :=by
 unfold qm
 rw [iO (by exact h),iO (by exact h)]
theorem U9{w w':World}{B g:Nat}{a b:Value}(h:Below B w w')(hg:B<=g):Below B w (qm w' g a b):=(h.setCell hg _).setCell hg _
theorem VK(w:World)(g:Nat)(a b:Value):(qm w g a b).heap.size=w.heap.size:=by simp [qm]
theorem j6m{f:Int}{A:Option Addr}{n k:Nat}:noB #[.slice A n k,.int .i64 f]:=by
 intro i x
 rcases i with _|_|i
 ·simp
 ·simp
 ·simp
theorem jm{W:World}{p:Nat}{t t':TypeId}{x0 x1 y0 y1 y2:Value}(h2:W.heap[p]?=some (.cells #[x0,x1] t (0,0)))(h3:W.heap[p+1]?=some (.cells #[y0,y1,y2] t' (0,0)))(a b x y z:Value):
 (set3 (qm W p a b) (p+1) x y z).heap[p]?=some (.cells #[a,b] t (0,0))/\(set3 (qm W p a b) (p+1) x y z).heap[p+1]?=some (.cells #[x,y,z] t' (0,0)):=
 ⟨(jS (by omega)).trans (j29 _ _ h2),qu _ _ _ ((qe (by omega)).trans h3)⟩
theorem yt{W:World}{p:Nat}{t t':TypeId}{f0 k0:Int}{A B C:Option Addr}{n m q i j l:Nat}(h2:W.heap[p]?=some (.cells #[.slice A n i,.int .i64 f0] t (0,0)))(h3:W.heap[p+1]?=some (.cells #[.slice B m j,.slice C q l,.int .i64 k0] t' (0,0)))(a b x y z:Value)
 {v:Value} {L:List UInt8} (hv:Bs W W.heap.size v L):Bs (set3 (qm W p a b) (p+1) x y z) (set3 (qm W p a b) (p+1) x y z).heap.size v L:=
 BsS.keep ((hv.off h2 j6m).off h3 (j4t B C m q j l k0)) fun g hs _=>⟨(jS hs.2).trans (qe hs.1.2),by rw [zl,VK];exact hs.1.1⟩
theorem ji{W w:World}{B p:Nat}{a b x y z:Value}(h:Below B w W)(hp:B<=p):Below B w (set3 (qm W p a b) (p+1) x y z):=kQ (U9 h hp) (by omega)
def J2(wd:World)(p s:Nat)(a b:Value)(L:Nat->Bool)(_:Nat->Value)(w1:World):Prop:=w1=if L s=true then qm wd p a b else wd
section
variable {wd w1:World} {p s:Nat} {a b:Value} {L:Nat->Bool} {v v':Nat->Value}
theorem J2.step(h:J2 wd p s a b L v w1)(i:Nat)(hi:s≠i):J2 wd p s a b (jp L i) v' w1:=by
 have hq:jp L i s=L s:=by unfold jp;exact iF hi
 show w1=if jp L i s=true then _ else _
 rw [hq]
 exact h
theorem J2.store(h:J2 wd p s a b L v w1)(hL:L s=false):J2 wd p s a b (jp L s) v' (qm w1 p a b):=by
 have hq:jp L s s=true:=by unfold jp;exact iT rfl
 have h2:w1=if L s=true then qm wd p a b else wd:=h
 rw [hL]at h2
 have h3:w1=wd:=h2
 show qm w1 p a b=if jp L s s=true then _ else _
 rw [hq,h3]
 exact(iT rfl).symm
theorem J2.row(h:J2 wd p s a b L v w1){j:Nat}(hj:j≠p):w1.heap[j]?=wd.heap[j]? :=by
 unfold J2 at h
 split at h
 ·rw [h];exact qe hj
 ·rw [h]
theorem J2.old(h:J2 wd p s a b L v w1)(hL:L s=false):w1=wd:=by
 unfold J2 at h
 rw [hL]at h
 exact h
theorem J2.all(h:J2 wd p s a b L v w1)(hL:L s=true):w1=qm wd p a b:=by
 unfold J2 at h
 rw [hL]at h
 exact h
end
def vR(d:List UInt8)(st:Int):Bool:=decide (d.length<=4096/\0<=st/\st<=65535)
def Zy(r:Int×List UInt8×Int×List UInt8×List UInt8×Int)(w:World)(e:Ending)(w':World):Prop:=
 ∃v s,e=.returned (.tuple #[v,s,.int .i64 r.1])/\Kr w' (·<w'.heap.size) v r.2.1 r.2.2.1/\qa w' (·<w'.heap.size) s r.2.2.2.1 r.2.2.2.2.1 r.2.2.2.2.2/\Below w.heap.size w w'
theorem YW{w w':World}{base:Nat}{v:Value}{l:List UInt8}(h:OwnB w base v l)(hb:Below w.heap.size w w'):OwnB w' base v l:=by
 refine⟨h.1,?_⟩
 rcases h.2 with h0|⟨g,cap,cur,hv,hb',hh,r⟩
 ·exact .inl h0
 ·exact .inr ⟨g,cap,cur,hv,hb',(hb.block g (iG hh)).trans hh,r⟩
theorem Vm{w:World}{base base':Nat}{v:Value}{l:List UInt8}(h:OwnB w base' v l)(hb:base<=base'):OwnB w base v l:=by
 refine⟨h.1,?_⟩
 rcases h.2 with h0|⟨g,cap,cur,hv,hb',r⟩
 ·exact .inl h0
 ·exact .inr ⟨g,cap,cur,hv,Nat.le_trans hb hb',r⟩
def JB(d:List UInt8)(st:Int):Int:=if 4096<d.length then 2 else if st<0\/65535<st then 3 else 0
theorem Z4(k:Int)(w:World)(h0:0<=k)(h1:k<65536):Calls Tryz.prog 125 #[.int .i64 k,.int .i64 2] w fun e w'=>∃v',e=.returned v'/\OwnB w' w.heap.size v' (zu k)/\Below w.heap.size w w':=by
 have HC:=iH (Qh k w h0 h1)
 have em:k.tmod 65536=k:=Int.tmod_eq_of_lt h0 h1
 obtain⟨X2,hX2⟩:∃X,zu k=X:=⟨_,rfl⟩
 rw [hX2]at HC |-
 clear hX2
 go_enter Tryz.func125,Tryz.ntmps125
 go_wp2_with(go_at_call 51;refine HC.out.mono ?_;rintro e w1 ⟨v1,rfl,ho,hb⟩;have HO:=iH ho;have HB:=iH hb;clear ho hb)
 go_ret
 exact⟨_,rfl,HO.out,HB.out⟩
theorem V3(v:Value)(d:List UInt8)(st:Int)(w:World)(h:Kr w (·<w.heap.size) v d st):Calls Tryz.prog 101 #[v] w fun e w'=>∃v',e=.returned (.tuple #[v',.int .i64 (JB d st)])/\Below w.heap.size w w':=by
 obtain⟨u,rfl,hd⟩:=h
 obtain⟨A,m,dc,rfl⟩:=hd.form
 obtain rfl:=Bs.lenEq hd
 obtain⟨w0,hw0⟩:∃w0,w0=w.alloc (.cells #[.slice A d.length dc,.int .i64 st] 44):=⟨_,rfl⟩
 have hB0:Below w.heap.size w w0:=by rw [hw0];exact iA
 have hh0:w0.heap[w.heap.size]?=some (.cells #[.slice A d.length dc,.int .i64 st] 44 (0,0)):=by rw [hw0];exact iN
 have hlt0:=(iG hh0)
 have CS:Hid (∀W,Below w0.heap.size w0 W->W.cell? ⟨w.heap.size,0,none⟩=some (.slice A d.length dc)/\W.cell? ⟨w.heap.size,1,none⟩=some (.int .i64 st)):=iH fun W h=>(by obtain⟨a,b,_⟩:=jd ((h.block w.heap.size hlt0).trans hh0);exact⟨a,b⟩)
 have HB:=iH hB0;have HW0:=iH hw0;have HD:=iH (Bs.lift hd hB0)
 clear hd hB0 hw0 hh0 hlt0
 by_cases h1:4096<d.length
 ·have R:Hid (JB d st=2):=iH (iT h1)
  have t1:decide ((d.length:Int)>4096)=true:=decide_eq_true (by omega)
  clear h1
  go_enter Tryz.func101,Tryz.ntmps101
  go_upto_region 1 with fail
  rw [<-HW0.out]
  obtain⟨c0,c1⟩:=CS.out w0 iB
  go_wp2_with fail
  go_ret2
  rw [R.out]
  exact⟨_,rfl,HB.out⟩
 ·have t1:decide ((d.length:Int)>4096)=false:=decide_eq_false (by omega)
  by_cases h2:st<0
  ·have R:Hid (JB d st=3):=iH (by unfold JB;rw [iF h1,iT (.inl h2)])
   have t2:decide (st<0)=true:=decide_eq_true h2
   clear h1 h2
   go_enter Tryz.func101,Tryz.ntmps101
   go_upto_region 1 with fail
   rw [<-HW0.out]
   obtain⟨c0,c1⟩:=CS.out w0 iB
   go_wp2_with fail
   go_ret2
   rw [R.out]
   exact⟨_,rfl,HB.out⟩
  ·have t2:decide (st<0)=false:=decide_eq_false h2
   by_cases h3:st>65535
   ·have R:Hid (JB d st=3):=iH (by unfold JB;rw [iF h1,iT (.inr h3)])
    have t3:decide (st>65535)=true:=decide_eq_true h3
    clear h1 h2 h3
    go_enter Tryz.func101,Tryz.ntmps101
    go_upto_region 1 with fail
    rw [<-HW0.out]
    obtain⟨c0,c1⟩:=CS.out w0 iB
    go_wp2_with fail
    go_ret2
    rw [R.out]
    exact⟨_,rfl,HB.out⟩
   ·have R:Hid (JB d st=0):=iH (by unfold JB;rw [iF h1,iF (by omega)])
    have t3:decide (st>65535)=false:=decide_eq_false h3
    have LD:Hid (d.length<=4096):=iH (by omega)
    obtain⟨X2,hX2⟩:∃X,zu st=X:=⟨_,rfl⟩
    have LX:Hid (X2.length=2):=iH (by rw [<-hX2]<;>rfl)
    have HNM:Hid (∀w,Calls Tryz.prog 125 #[.int .i64 st,.int .i64 2] w fun e w'=>∃v',e=.returned v'/\OwnB w' w.heap.size v' X2/\Below w.heap.size w w'):=iH (fun w=>by rw [<-hX2];exact Z4 st w (by omega) (by omega))
    clear h1 h2 h3 hX2
    go_enter Tryz.func101,Tryz.ntmps101
    go_upto_region 1 with fail
    rw [<-HW0.out]
    obtain⟨c0,c1⟩:=CS.out w0 iB
    go_upto_region 5 with fail
    clear c0 c1 t1 t2 t3
    refine je 6 [some 18,some 19,some 20,some 21,some 22,some 23] [[],[0],[0,1],[],[3],[0,1,2,3,4]]
     (fun _ _ w1=>Below w0.heap.size w0 w1) (fun w1 w2=>Below w1.heap.size w1 w2)
     [fun v _=>v 0=.pointer (some ⟨w.heap.size,0,none⟩),
      fun v _=>v 1=.slice A d.length dc,
      fun v w1=>∃a c,v 2=.slice a d.length c/\OwnB w1 w0.heap.size (.slice a d.length c) d,
      fun v _=>v 3=.pointer (some ⟨w.heap.size,1,none⟩),
      fun v _=>v 4=.int .i64 st,
      fun v w1=>∃a c,v 5=.slice a (X2).length c/\BsS w1 (New w0 w1) (.slice a (X2).length c) (X2)]
     (by kernel_rfl) (by kernel_rfl) (fun _=>iB.drew) ?st ?steps ?tail
    case st=>
     exact(.cons (fun _ _ _ _ _ _ h=>h) (.cons (fun _ _ _ _ _ _ h=>h) (.cons (fun _ _ _ _ _ hr ⟨a,c,e,h⟩=>⟨a,c,e,YW h hr⟩) (.cons (fun _ _ _ _ _ _ h=>h) (.cons (fun _ _ _ _ _ _ h=>h) (.cons (fun _ _ _ _ _ hr ⟨a,c,e,h⟩=>⟨a,c,e,BsS.keep h fun g hg hl=>⟨hr.block g hl,hg.1,iZ hl hr.size⟩⟩) .nil))))))
    case steps=>
     simp only [iI,iK]
     refine(.cons ?_ (.cons ?_ (.cons ?_ (.cons ?_ (.cons ?_ (.cons ?_ .nil))))))
     all_goals(intro L v w1 hJ hL hA hF K hK;simp only [jf,Act.put,iM,Nat.reduceAdd,iS,iC,iD]at hK |-)
     ·go_simp
      refine hK _ _ hJ iB ?_
      first|exact rfl|exact j5 _
     ·have e0:v 0=.pointer (some ⟨w.heap.size,0,none⟩):=hF 0 (hA 0 (by simp))
      obtain⟨c0,c1⟩:=CS.out _ hJ
      simp only [e0]at hK
      go_simp
      refine hK _ _ hJ iB ?_
      first|exact rfl|exact j5 _
     ·have e1:v 1=.slice A d.length dc:=hF 1 (hA 1 (by simp))
      simp only [e1]at hK
      go_simp
      refine(kM _ d w1 (HD.out.lift hJ)).mono ?_
      rintro e w5 ⟨v5,rfl,ho,hb⟩
      obtain⟨a5,c5,hp⟩:=ho.form
      subst hp
      exact hK _ _ (hJ.trans (hb.mono hJ.size)) hb ⟨_,_,rfl,Vm ho hJ.size⟩
     ·go_simp
      refine hK _ _ hJ iB ?_
      first|exact rfl|exact j5 _
     ·have e3:v 3=.pointer (some ⟨w.heap.size,1,none⟩):=hF 3 (hA 3 (by simp))
      obtain⟨c0,c1⟩:=CS.out _ hJ
      simp only [e3]at hK
      go_simp
      refine hK _ _ hJ iB ?_
      first|exact rfl|exact j5 _
     ·have e4:v 4=.int .i64 st:=hF 4 (hA 4 (by simp))
      simp only [e4]at hK
      go_simp
      refine(HNM.out w1).mono ?_
      rintro e w5 ⟨v5,rfl,ho,hb⟩
      have hx:BsS w5 (New w0 w5) v5 (X2):=(ho.out (by have:=LX.out;omega) w1 iL).keep fun g hg _=>⟨rfl,Nat.le_trans hJ.size hg.1,hg.2⟩
      obtain⟨A5,C5,hv5⟩:=Bs.formL hx
      subst hv5
      exact hK _ _ (hJ.trans (hb.mono hJ.size)) hb ⟨_,_,rfl,hx⟩
    case tail=>
     intro v w1 hJ hF
     have e0:v 0=.pointer (some ⟨w.heap.size,0,none⟩):=hF 0 (by simp)
     have e1:v 1=.slice A d.length dc:=hF 1 (by simp)
     have e3:v 3=.pointer (some ⟨w.heap.size,1,none⟩):=hF 3 (by simp)
     have e4:v 4=.int .i64 st:=hF 4 (by simp)
     obtain⟨a5,c5,e5,h5⟩:∃a c,v 5=.slice a (X2).length c/\BsS w1 (New w0 w1) (.slice a (X2).length c) (X2):=hF 5 (by simp)
     obtain⟨a2,c2,e2,h2⟩:∃a c,v 2=.slice a d.length c/\OwnB w1 w0.heap.size (.slice a d.length c) d:=hF 2 (by simp)
     simp only [iE,iJ,jf,Act.put,iM,Nat.reduceAdd,iS,iC,iD]
     simp only [e2,e5]
     clear e0 e1 e2 e3 e4 e5
     have HS:=iH h5;have HO:=iH h2;have HJ:=iH hJ
     clear h5 h2 hJ hF
     go_wp2_with(at_builtin;(with_reducible refine jc rfl (.tmp 20) (.tmp 23) rfl w0.heap.size (.slice a2 d.length c2) d rfl HO.out a5 X2.length c5 X2 (New w0 w1) rfl HS.out (by have:=LX.out;have:=LD.out;omega) HJ.out.size ?_);intro v3 w3 hgr;have HB3:=iH (hgr.2.1:Below w0.heap.size w1 w3);clear hgr)
     go_ret2
     rw [R.out]
     exact⟨_,rfl,HB.out.trans ((HJ.out.trans HB3.out).mono HB.out.size)⟩
theorem x8(v:Value)(d:List UInt8)(st:Int)(w:World)(h:Kr w (·<w.heap.size) v d st):Calls Tryz.prog 76 #[v] w fun e w'=>e=.returned (.bool (vR d st))/\Below w.heap.size w w':=by
 obtain⟨u,rfl,hd⟩:=h
 obtain⟨A,m,dc,rfl⟩:=hd.form
 obtain rfl:=Bs.lenEq hd
 obtain⟨w0,hw0⟩:∃w0,w0=w.alloc (.cells #[.slice A d.length dc,.int .i64 st] 44):=⟨_,rfl⟩
 have hB0:Below w.heap.size w w0:=by rw [hw0];exact iA
 have hh0:w0.heap[w.heap.size]?=some (.cells #[.slice A d.length dc,.int .i64 st] 44 (0,0)):=by rw [hw0];exact iN
 have hlt0:=(iG hh0)
 obtain⟨c0,c1,_⟩:=jd hh0
 have HE:=iH (V3 (.agg #[.slice A d.length dc,.int .i64 st]) d st w0 ⟨_,rfl,Bs.lift hd hB0⟩)
 have hq:(JB d st==0)=vR d st:=by
  unfold JB vR
  rw [Bool.eq_iff_iff,beq_iff_eq,decide_eq_true_eq]
  split
  ·omega
  ·split<;>omega
 have HB:=iH hB0;have HW0:=iH hw0
 clear hd hB0 hw0 hh0 hlt0
 obtain⟨E,hE⟩:∃E,JB d st=E:=⟨_,rfl⟩
 obtain⟨o,ho⟩:∃o,vR d st=o:=⟨_,rfl⟩
 rw [hE]at HE hq
 rw [ho]at hq |-
 clear hE ho
 go_enter Tryz.func76,Tryz.ntmps76
 go_upto_region 1 with fail
 rw [<-HW0.out]
 go_wp2_with(go_at_call 101;refine HE.out.mono ?_;rintro e w1 ⟨v1,rfl,hb⟩;have HB1:=iH hb;clear hb c0 c1)
 go_ret
 exact⟨rfl,HB.out.trans (HB1.out.mono HB.out.size)⟩
theorem xg(v:Value)(d:List UInt8)(st:Int)(w:World)(h:Kr w (·<w.heap.size) v d st):Calls Tryz.prog 44 #[v] w fun e w'=>e=.returned (.bool (vR d st))/\Below w.heap.size w w':=by
 obtain⟨u,rfl,hd⟩:=h
 obtain⟨A,m,dc,rfl⟩:=hd.form
 obtain rfl:=Bs.lenEq hd
 obtain⟨w0,hw0⟩:∃w0,w0=w.alloc (.cells #[.slice A d.length dc,.int .i64 st] 44):=⟨_,rfl⟩
 have hB0:Below w.heap.size w w0:=by rw [hw0];exact iA
 have hh0:w0.heap[w.heap.size]?=some (.cells #[.slice A d.length dc,.int .i64 st] 44 (0,0)):=by rw [hw0];exact iN
 have hlt0:=(iG hh0)
 obtain⟨c0,c1,_⟩:=jd hh0
 have HB:=iH hB0;have HW0:=iH hw0
 clear hd hB0 hw0 hh0 hlt0
 by_cases h1:d.length<=4096
 ·have t1:decide ((d.length:Int)<=4096)=true:=decide_eq_true (by omega)
  by_cases h2:st>=0
  ·have t2:decide (st>=0)=true:=decide_eq_true h2
   by_cases h3:st<=65535
   ·have R:Hid (vR d st=true):=iH (decide_eq_true ⟨h1,h2,h3⟩)
    have t3:decide (st<=65535)=true:=decide_eq_true h3
    clear h1 h2 h3
    go_enter Tryz.func44,Tryz.ntmps44
    go_upto_region 1 with fail
    rw [<-HW0.out]
    go_wp2_with fail
    go_ret
    rw [R.out]
    exact⟨rfl,HB.out⟩
   ·have R:Hid (vR d st=false):=iH (decide_eq_false fun h=>h3 h.2.2)
    have t3:decide (st<=65535)=false:=decide_eq_false h3
    clear h1 h2 h3
    go_enter Tryz.func44,Tryz.ntmps44
    go_upto_region 1 with fail
    rw [<-HW0.out]
    go_wp2_with fail
    go_ret
    rw [R.out]
    exact⟨rfl,HB.out⟩
  ·have R:Hid (vR d st=false):=iH (decide_eq_false fun h=>h2 h.2.1)
   have t2:decide (st>=0)=false:=decide_eq_false h2
   clear h1 h2
   go_enter Tryz.func44,Tryz.ntmps44
   go_upto_region 1 with fail
   rw [<-HW0.out]
   go_wp2_with fail
   go_ret
   rw [R.out]
   exact⟨rfl,HB.out⟩
 ·have R:Hid (vR d st=false):=iH (decide_eq_false fun h=>h1 h.1)
  have t1:decide ((d.length:Int)<=4096)=false:=decide_eq_false (by omega)
  clear h1
  go_enter Tryz.func44,Tryz.ntmps44
  go_upto_region 1 with fail
  rw [<-HW0.out]
  go_wp2_with fail
  go_ret
  rw [R.out]
  exact⟨rfl,HB.out⟩
theorem JG(st:Int)(h0:0<=st)(h1:st<=65535)(w:World):Calls Tryz.prog 77 #[.int .i64 st] w fun e w'=>∃A c,e=.returned (.agg #[.int .i64 153,.slice A (zu st).length c,.slice none 0 0])/\BsS w' (New w w') (.slice A (zu st).length c) (zu st)/\Below w.heap.size w w':=by
 obtain⟨w0,hw0⟩:∃w0,w0=w.alloc (.cells #[.int .i64 0,.slice none 0 0,.slice none 0 0] 61):=⟨_,rfl⟩
 have hB0:Below w.heap.size w w0:=by rw [hw0];exact iA
 have hh0:w0.heap[w.heap.size]?=some (.cells #[.int .i64 0,.slice none 0 0,.slice none 0 0] 61 (0,0)):=by rw [hw0];exact iN
 have hz:w0.heap.size=w.heap.size+1:=by rw [hw0];simp
 have HC:=iH (Qh st w0 h0 (by omega))
 obtain⟨X2,hX2⟩:∃X,zu st=X:=⟨_,rfl⟩
 rw [hX2]at HC |-
 have LX:Hid (X2.length=2):=iH (by rw [<-hX2]<;>rfl)
 have HB:=iH hB0;have HW0:=iH hw0;have HR:=iH hh0;have HZ:=iH hz
 clear hX2 hw0 hB0 hh0 hz h0 h1
 go_enter Tryz.func77,Tryz.ntmps77
 go_upto_region 1 with fail
 rw [<-HW0.out]
 go_wp2_with(go_at_call 51;refine HC.out.mono ?_;rintro e w1 ⟨v1,rfl,ho,hb⟩;obtain⟨A2,c2,hv1⟩:=ho.form;subst hv1;have HO:=iH ho;have HB1:=iH hb;have hr1:=(hb.block w.heap.size (by have:=HZ.out;omega)).trans HR.out;have HR1:=iH hr1;obtain⟨z0,z1,z2,zf⟩:=j7 hr1;have zf0:=zf 0;have zf1:=zf 1;have zf2:=zf 2;obtain⟨y0,y1,y2,_⟩:=j7 (qu (.int .i64 153) (.slice A2 X2.length c2) (.slice none 0 0) hr1);clear zf hr1 ho hb)
 refine bodyPost_ret (v:=.agg #[.int .i64 153,.slice A2 X2.length c2,.slice none 0 0]) (by simp only [set3]at y0 y1 y2;simp [results,Tryz.results77,go_sem,y0,y1,y2]) rfl ?_
 have hz:=HZ.out
 have ho:=HO.out.out (by have:=LX.out;omega) w0 iL
 exact⟨A2,c2,rfl,ho.keep fun g hg hl=>⟨jS (by have:=hg.1;omega),by have:=hg.1;omega,by simpa [set3]using hg.2⟩,kQ (HB.out.trans (HB1.out.mono HB.out.size)) iL⟩
theorem qd(err:Int)(w:World):Calls Tryz.prog 78 #[.int .i64 err] w fun e w'=>e=.returned (.tuple #[.agg #[.slice none 0 0,.int .i64 0],.agg #[.slice none 0 0,.slice none 0 0,.int .i64 0],.int .i64 err])/\Below w.heap.size w w':=by
 obtain⟨w1,hw1⟩:∃w1,w1=w.alloc (.cells #[.slice none 0 0,.int .i64 0] 44):=⟨_,rfl⟩
 obtain⟨wa,hwa⟩:∃wa,wa=w1.alloc (.cells #[.slice none 0 0,.slice none 0 0,.int .i64 0] 29):=⟨_,rfl⟩
 have hz1:w1.heap.size=w.heap.size+1:=by rw [hw1];simp
 have b1:Below w.heap.size w w1:=by rw [hw1];exact iA
 have b2:Below w1.heap.size w1 wa:=by rw [hwa];exact iA
 have h2:wa.heap[w.heap.size]?=some (.cells #[.slice none 0 0,.int .i64 0] 44 (0,0)):=by rw [b2.block _ (by omega),hw1];exact iN
 have h3:wa.heap[w.heap.size+1]?=some (.cells #[.slice none 0 0,.slice none 0 0,.int .i64 0] 29 (0,0)):=by rw [hwa,<-hz1];exact iN
 have HB:=iH (b1.trans (b2.mono b1.size));have H2:=iH h2;have H3:=iH h3;have HW1:=iH hw1;have HWA:=iH hwa
 obtain⟨r0,r1,rf⟩:=jd h2
 have rf0:=rf 0;have rf1:=rf 1
 obtain⟨s0,s1,s2,sf⟩:=j7 h3
 have sf0:=sf 0;have sf1:=sf 1;have sf2:=sf 2
 clear rf sf h2 h3 b1 b2 hw1 hwa hz1
 go_enter Tryz.func78,Tryz.ntmps78
 go_upto_region 1 with fail
 rw [<-HW1.out,<-HWA.out]
 go_wp2_with fail
 obtain⟨q2,q3⟩:=jm H2.out H3.out (.slice none 0 0) (.int .i64 0) (.slice none 0 0) (.slice none 0 0) (.int .i64 0)
 obtain⟨y0,y1,_⟩:=jd q2
 obtain⟨x0,x1,x2,_⟩:=j7 q3
 refine bodyPost_ret (v:=.tuple #[.agg #[.slice none 0 0,.int .i64 0],.agg #[.slice none 0 0,.slice none 0 0,.int .i64 0],.int .i64 err]) (by simp only [qm,set3]at y0 y1 x0 x1 x2;simp [results,Tryz.results78,go_sem,y0,y1,x0,x1,x2]) rfl ?_
 exact⟨rfl,ji HB.out iL⟩
theorem j5t{w:World}{vs vc:Value}{k1 k2:List UInt8}{n st:Int}{d:List UInt8}(hs:qa w (·<w.heap.size) vs k1 k2 n)(hc:Kr w (·<w.heap.size) vc d st):
 ∃A1 d1 A2 d2 A3 d3 ws wq w2 wa,vs=.agg #[.slice A1 k1.length d1,.slice A2 k2.length d2,.int .i64 n]/\vc=.agg #[.slice A3 d.length d3,.int .i64 st]/\Hid (∀W,Below wa.heap.size wa W->W.heap[(w.heap.size+1+1)]?=some (.cells #[.slice none 0 0,.int .i64 0] 44 (0,0)))/\Hid (∀W,Below wa.heap.size wa W->W.heap[(w.heap.size+1+1+1)]?=some (.cells #[.slice none 0 0,.slice none 0 0,.int .i64 0] 29 (0,0)))/\Hid (∀W,Below wa.heap.size wa W->W.cell? ⟨w.heap.size,0,none⟩=some (.slice A1 k1.length d1)/\W.cell? ⟨w.heap.size,1,none⟩=some (.slice A2 k2.length d2)/\W.cell? ⟨w.heap.size,2,none⟩=some (.int .i64 n))/\Hid (∀W,Below wa.heap.size wa W->W.cell? ⟨w.heap.size+1,0,none⟩=some (.slice A3 d.length d3)/\W.cell? ⟨w.heap.size+1,1,none⟩=some (.int .i64 st))/\Hid (∀W,Below wa.heap.size wa W->W.heap[w.heap.size+1]?=some (.cells #[.slice A3 d.length d3,.int .i64 st] 44 (0,0)))/\Hid (wa.heap.size=w.heap.size+1+1+1+1)/\Hid (Below w.heap.size w wa)/\Hid (ws=w.alloc (.cells #[.slice A1 k1.length d1,.slice A2 k2.length d2,.int .i64 n] 29))/\Hid (wq=ws.alloc (.cells #[.slice A3 d.length d3,.int .i64 st] 44))/\Hid (w2=wq.alloc (.cells #[.slice none 0 0,.int .i64 0] 44))/\Hid (wa=w2.alloc (.cells #[.slice none 0 0,.slice none 0 0,.int .i64 0] 29))/\Hid (Bs wa wa.heap.size (.slice A1 k1.length d1) k1)/\Hid (Bs wa wa.heap.size (.slice A2 k2.length d2) k2)/\Hid (Bs wa wa.heap.size (.slice A3 d.length d3) d)/\Hid (qa wa (·<wa.heap.size) (.agg #[.slice A1 k1.length d1,.slice A2 k2.length d2,.int .i64 n]) k1 k2 n)/\Hid (∀W,Below wa.heap.size wa W->Kr W (·<W.heap.size) (.agg #[.slice A3 d.length d3,.int .i64 st]) d st):=by
 obtain⟨ua,ub,rfl,ha,hb⟩:=hs
 obtain⟨ud,rfl,hd⟩:=hc
 obtain⟨A1,n1,d1,rfl⟩:=ha.form
 obtain⟨A2,n2,d2,rfl⟩:=hb.form
 obtain⟨A3,n3,d3,rfl⟩:=hd.form
 obtain rfl:=Bs.lenEq ha
 obtain rfl:=Bs.lenEq hb
 obtain rfl:=Bs.lenEq hd
 obtain⟨ws,hws⟩:∃ws,ws=w.alloc (.cells #[.slice A1 k1.length d1,.slice A2 k2.length d2,.int .i64 n] 29):=⟨_,rfl⟩
 obtain⟨wq,hwq⟩:∃wq,wq=ws.alloc (.cells #[.slice A3 d.length d3,.int .i64 st] 44):=⟨_,rfl⟩
 obtain⟨w2,hw2⟩:∃w2,w2=wq.alloc (.cells #[.slice none 0 0,.int .i64 0] 44):=⟨_,rfl⟩
 obtain⟨wa,hwa⟩:∃wa,wa=w2.alloc (.cells #[.slice none 0 0,.slice none 0 0,.int .i64 0] 29):=⟨_,rfl⟩
 have zs:ws.heap.size=w.heap.size+1:=by rw [hws];simp
 have zq:wq.heap.size=w.heap.size+1+1:=by rw [hwq];simp [zs]
 have z2:w2.heap.size=w.heap.size+1+1+1:=by rw [hw2];simp [zq]
 have za:wa.heap.size=w.heap.size+1+1+1+1:=by rw [hwa];simp [z2]
 have b1:Below w.heap.size w ws:=by rw [hws];exact iA
 have b2:Below ws.heap.size ws wq:=by rw [hwq];exact iA
 have b3:Below wq.heap.size wq w2:=by rw [hw2];exact iA
 have b4:Below w2.heap.size w2 wa:=by rw [hwa];exact iA
 have q1:ws.heap[w.heap.size]?=some (.cells #[.slice A1 k1.length d1,.slice A2 k2.length d2,.int .i64 n] 29 (0,0)):=by rw [hws];exact iN
 have q2:wq.heap[w.heap.size+1]?=some (.cells #[.slice A3 d.length d3,.int .i64 st] 44 (0,0)):=by rw [hwq,<-zs];exact iN
 have q3:w2.heap[(w.heap.size+1+1)]?=some (.cells #[.slice none 0 0,.int .i64 0] 44 (0,0)):=by rw [hw2,<-zq];exact iN
 have q4:wa.heap[(w.heap.size+1+1+1)]?=some (.cells #[.slice none 0 0,.slice none 0 0,.int .i64 0] 29 (0,0)):=by rw [hwa,<-z2];exact iN
 have e3:=(b4.block (w.heap.size+1+1) (by omega)).trans q3
 have e2:=(b4.block (w.heap.size+1) (by omega)).trans ((b3.block (w.heap.size+1) (by omega)).trans q2)
 have e1:=(b4.block w.heap.size (by omega)).trans ((b3.block w.heap.size (by omega)).trans ((b2.block w.heap.size (by omega)).trans q1))
 have hB:Below w.heap.size w wa:=b1.trans ((b2.trans ((b3.trans (b4.mono b3.size)).mono b2.size)).mono b1.size)
 have R2:Hid (∀W,Below wa.heap.size wa W->W.heap[(w.heap.size+1+1)]?=some (.cells #[.slice none 0 0,.int .i64 0] 44 (0,0))):=iH fun W h=>(h.block _ (by omega)).trans e3
 have R3:Hid (∀W,Below wa.heap.size wa W->W.heap[(w.heap.size+1+1+1)]?=some (.cells #[.slice none 0 0,.slice none 0 0,.int .i64 0] 29 (0,0))):=iH fun W h=>(h.block _ (by omega)).trans q4
 have CS:Hid (∀W,Below wa.heap.size wa W->W.cell? ⟨w.heap.size,0,none⟩=some (.slice A1 k1.length d1)/\W.cell? ⟨w.heap.size,1,none⟩=some (.slice A2 k2.length d2)/\W.cell? ⟨w.heap.size,2,none⟩=some (.int .i64 n)):=iH fun W h=>(by obtain⟨a,b,c,_⟩:=j7 ((h.block w.heap.size (by omega)).trans e1);exact⟨a,b,c⟩)
 have CC:Hid (∀W,Below wa.heap.size wa W->W.cell? ⟨w.heap.size+1,0,none⟩=some (.slice A3 d.length d3)/\W.cell? ⟨w.heap.size+1,1,none⟩=some (.int .i64 st)):=iH fun W h=>(by obtain⟨a,b,_⟩:=jd ((h.block (w.heap.size+1) (by omega)).trans e2);exact⟨a,b⟩)
 have RC:Hid (∀W,Below wa.heap.size wa W->W.heap[w.heap.size+1]?=some (.cells #[.slice A3 d.length d3,.int .i64 st] 44 (0,0))):=iH fun W h=>(h.block _ (by omega)).trans e2
 have HZA:=iH za
 have HB:=iH hB;have HWS:=iH hws;have HWC:=iH hwq;have HW2:=iH hw2;have HW3:=iH hwa
 have H1:=iH (Bs.lift ha hB);have H2:=iH (Bs.lift hb hB);have H3:=iH (Bs.lift hd hB)
 have HSV:Hid (qa wa (·<wa.heap.size) (.agg #[.slice A1 k1.length d1,.slice A2 k2.length d2,.int .i64 n]) k1 k2 n):=iH ⟨_,_,rfl,H1.out,H2.out⟩
 have HCV:Hid (∀W,Below wa.heap.size wa W->Kr W (·<W.heap.size) (.agg #[.slice A3 d.length d3,.int .i64 st]) d st):=iH fun W h=>⟨_,rfl,H3.out.lift h⟩
 exact⟨A1,d1,A2,d2,A3,d3,ws,wq,w2,wa,rfl,rfl,R2,R3,CS,CC,RC,HZA,HB,HWS,HWC,HW2,HW3,H1,H2,H3,HSV,HCV⟩
def stN(st:Int):Ns:=.cons 153 (zu st) .nil .nil
def Vs(k1 k2:List UInt8)(n st:Int):Except Int (List UInt8)->Int×List UInt8×Int×List UInt8×List UInt8×Int
 |.error e=>(e,[],0,[],[],0)
 |.ok b=>(0,b,st,k1,k2,n+1)
def kC(k1 k2:List UInt8)(n:Int)(d:List UInt8)(st:Int):Int×List UInt8×Int×List UInt8×List UInt8×Int:=
 if vS k1 k2 n=false then(14,[],0,[],[],0)
 else if vR d st=false then(14,[],0,[],[],0)
 else if n=1099511627776 then(3,[],0,[],[],0)
 else Vs k1 k2 n st (qT k2 (J3 (n+1)) [] ((j6 k1 (J3 (n+1)) d).app (stN st)))
theorem j5c:kS 153:=⟨by decide,by decide⟩
theorem Vu(k1 N d:List UInt8)(st:Int)(hd:d.length<=4096):((j6 k1 N d).app (stN st)).enc.length<=10000:=by
 rw [xq,List.length_append]
 have h1:(stN st).enc.length<=100:=by
  refine Nat.le_trans (zi 153 _ .nil (by decide) (by decide) (by simp [zu])) ?_
  simp [zu,Ns.enc]
 have h2:(j6 k1 N d).enc.length<=5000:=by
  unfold j6
  split
  ·simp [Ns.enc]
  ·have hl:=yR k1 (qK k1 N) d
   have hp:=kW d.length
   refine Nat.le_trans (zi 135 _ .nil (by decide) (by decide) (by simp;omega)) ?_
   simp [Ns.enc]
   omega
 omega
theorem j05{a b c d:Value}(h:Value.tuple #[a,b]=.tuple #[c,d]):a=c:=by
 injection h with h
 have:=congrArg (fun x:Array Value=>x[0]?) h
 simpa using this
theorem Xo{w:World}{base base':Nat}{o:Value}{L:Ns}(h:OwnN w base' o L)(hb:base<=base'):OwnN w base o L:=by
 obtain⟨xs,h1,h2⟩:=h
 refine⟨xs,⟨h1.1,?_⟩,h2.keep (fun b hs _=>⟨rfl,hs.1,hs.2.1,Nat.le_trans hb hs.2.2⟩) L xs⟩
 rcases h1.2 with h0|⟨g,cap,cur,hv,hb',r⟩
 ·exact .inl h0
 ·exact .inr ⟨g,cap,cur,hv,Nat.le_trans hb hb',r⟩
theorem Yi{op:Oper}{a:Act}{w:World}{K:Act->World->Prop}{Q:Exit->Act->World->Prop}(s x:Operand)
 (ho:op.op=.call {callee:=.builtin .append,args:=#[s,x],argTypes:=#[58,58]})
 (base:Nat) (o:Value) (L:Ns) (hs:a.eval s=o) (hown:OwnN w base o L) (t:Int) (v:List UInt8) (k:Ns) (xv yv:Value) (ty:TypeId) (g:Nat) (hx:a.eval x=.slice (some ⟨g,0,none⟩) 1 1) (hg:g=w.heap.size)
 (hi:kS t) (hv:BsS w (zw base w o) xv v) (hk:NsS w (zw base w o) yv k) (hb:L.len<=100000000000) (hbase:base<=w.heap.size)
 (h:∀o' w',j0n w w' base o o' (L.app (.cons t v k .nil))->K (a.put op.dst o') w'):Oper.wp Tryz.prog op a (w.alloc (.cells #[.int .i64 t,xv,yv] ty)) K Q:=by
 subst hg
 have hkX:∀b,zw base w o b->b<w.heap.size->(w.alloc (.cells #[.int .i64 t,xv,yv] ty)).heap[b]?=w.heap[b]?/\j35 base (fun _=>False) (w.alloc (.cells #[.int .i64 t,xv,yv] ty)) o b:=fun b hs hl=>
  ⟨Below.heap_alloc w _ b hl,⟨iZ hl (by simp),hs.2⟩,fun h=>h⟩
 have hX:OwnX (w.alloc (.cells #[.int .i64 t,xv,yv] ty)) base (fun _=>False) o L:=by
  obtain⟨xs,h1,h2⟩:=hown
  exact⟨xs,World.ownsRow.alloc h1 _,h2.keep hkX L xs⟩
 have hE:EachN (w.alloc (.cells #[.int .i64 t,xv,yv] ty)) (j35 base (fun _=>False) (w.alloc (.cells #[.int .i64 t,xv,yv] ty)) o) (.cons t v k .nil) [.int .i64 t,xv,yv]:=⟨xv,yv,[],rfl,hi,hv.keep hkX,hk.keep hkX,rfl⟩
 refine j2g s x ho base (fun _=>False) o L (.cons t v k .nil) hs hX w.heap.size 1 [.int .i64 t,xv,yv] #[.int .i64 t,xv,yv] ty (0,0) hx rfl (iN) rfl hE (by simp [Ns.len];omega) (Nat.le_trans hbase (by simp)) (fun h=>h) fun o' w' hG=>h o' w' ⟨hG.1.own,(iB.alloc hbase _).trans hG.2.1,?_⟩
 exact⟨hG.2.2.1.os,hG.2.2.1.tape,hG.2.2.1.output,Nat.le_trans (by simp) hG.2.2.1.size,fun b hb' hne=>(hG.2.2.1.block b (by simp;omega) hne).trans (Below.heap_alloc w _ b hb')⟩
theorem YN(vs vc:Value)(k1 k2:List UInt8)(n:Int)(d:List UInt8)(st:Int)(w:World)(hs:qa w (·<w.heap.size) vs k1 k2 n)(hc:Kr w (·<w.heap.size) vc d st):
 Calls Tryz.prog 40 #[vs,vc] w (Zy (kC k1 k2 n d st) w):=by
 obtain⟨A1,d1,A2,d2,A3,d3,ws,wq,w2,wa,rfl,rfl,R2,R3,CS,CC,RC,HZA,HB,HWS,HWC,HW2,HW3,H1,H2,H3,HSV,HCV⟩:=j5t hs hc
 clear hs hc
 by_cases v1:vS k1 k2 n=true
 ·have HVS:=iH v1
  by_cases v2:vR d st=true
  ·have HVC:=iH v2
   have VS:=iH (of_decide_eq_true v1)
   have VC:=iH (of_decide_eq_true v2)
   clear v1 v2
   by_cases g3:n=1099511627776
   ·have t3:(n==1099511627776)=true:=by simp [g3]
    have R:Hid (kC k1 k2 n d st=(3,[],0,[],[],0)):=iH (by unfold kC;rw [iF (by rw [HVS.out];simp),iF (by rw [HVC.out];simp),iT g3])
    clear g3
    go_enter Tryz.func40,Tryz.ntmps40
    go_upto_region 1 with fail
    rw [<-HWS.out,<-HWC.out,<-HW2.out,<-HW3.out]
    obtain⟨f0,f1,f2⟩:=CS.out wa iB
    go_upto_region 4 with (first
     |(go_at_call 76;have M1:=HBV;go_loud(refine(x8 _ d st wv (HCV.out wv HBV.out)).mono ?_;rw [HVC.out];rintro e wc ⟨rfl,hb⟩;have hb2:=HBV.out.trans (hb.mono HBV.out.size);have HBC:=iH hb2;clear g0 g1;obtain⟨g0,g1⟩:=CC.out wc hb2;clear f0 f1 f2;obtain⟨f0,f1,f2⟩:=CS.out wc hb2;clear hb hb2))
     |(go_at_call 47;refine(jr _ k1 k2 n _ wa HSV.out).mono ?_;rw [HVS.out];rintro e wv ⟨rfl,hb⟩;have HBV:=iH hb;obtain⟨g0,g1⟩:=CC.out wv hb;clear hb))
    clear f0 f1 f2 g0 g1
    obtain⟨r0,r1,rf⟩:=jd (R2.out wc HBC.out);have rf0:=rf 0;have rf1:=rf 1;clear rf;obtain⟨s0,s1,s2,sf⟩:=j7 (R3.out wc HBC.out);have sf0:=sf 0;have sf1:=sf 1;have sf2:=sf 2;clear sf
    go_wp2_with fail
    obtain⟨q2,q3⟩:=jm (R2.out wc HBC.out) (R3.out wc HBC.out) (.slice none 0 0) (.int .i64 0) (.slice none 0 0) (.slice none 0 0) (.int .i64 0)
    obtain⟨y0,y1,_⟩:=jd q2
    obtain⟨x0,x1,x2,_⟩:=j7 q3
    refine bodyPost_ret (v:=.tuple #[.agg #[.slice none 0 0,.int .i64 0],.agg #[.slice none 0 0,.slice none 0 0,.int .i64 0],.int .i64 3]) (by simp only [qm,set3]at y0 y1 x0 x1 x2;simp [results,Tryz.results40,go_sem,y0,y1,x0,x1,x2]) rfl ?_
    rw [R.out]
    exact⟨_,_,rfl,⟨_,rfl,BsS.nil0 _ _⟩,⟨_,_,rfl,BsS.nil0 _ _,BsS.nil0 _ _⟩,ji (HB.out.trans (Below.mono HBC.out HB.out.size)) (by omega)⟩
   ·have t3:(n==1099511627776)=false:=by simpa using g3
    have LK1:Hid (k1.length=16):=iH VS.out.1
    have LK2:Hid (k2.length=16):=iH VS.out.2.1
    have LD:Hid (d.length<=4096):=iH VC.out.1
    obtain⟨N,hN⟩:∃N,J3 (n+1)=N:=⟨_,rfl⟩
    have LN:Hid (N.length=16):=iH (by rw [<-hN]<;>rfl)
    have HNX:Hid (∀(va vb:Value) (w:World),Bs w w.heap.size va k1->Bs w w.heap.size vb k2->Calls Tryz.prog 49 #[.agg #[va,vb,.int .i64 n]] w fun e w'=>∃x y z,e=.returned (.agg #[x,y,.int .i64 (n+1),z])/\Bs w' w'.heap.size x k1/\Bs w' w'.heap.size y k2/\Bs w' w'.heap.size z N/\Below w.heap.size w w'):=iH (fun va vb w h1 h2=>by rw [<-hN];exact yd va vb k1 k2 n VS.out.2.2.1 VS.out.2.2.2 w h1 h2)
    obtain⟨X2,hX2⟩:∃X,zu st=X:=⟨_,rfl⟩
    obtain⟨LC,hLC⟩:∃L,(j6 k1 N d).app (.cons 153 X2 .nil .nil)=L:=⟨_,rfl⟩
    have HLC:=iH hLC
    have HST:Hid (∀w,Calls Tryz.prog 77 #[.int .i64 st] w fun e w'=>∃A c,e=.returned (.agg #[.int .i64 153,.slice A X2.length c,.slice none 0 0])/\BsS w' (New w w') (.slice A X2.length c) X2/\Below w.heap.size w w'):=iH (fun w=>by rw [<-hX2];exact JG st VC.out.2.1 VC.out.2.2 w)
    have HCL:Hid ((j6 k1 N d).len<=100000000000):=iH (by unfold j6;split<;>simp [Ns.len])
    have LLA:Hid (LC.all<=10):=iH (by rw [<-hLC,Ns.all_snoc];unfold j6;split<;>simp [Ns.all])
    have LLE:Hid (LC.enc.length<=10000):=iH (by
     have h:=Vu k1 N d st LD.out
     unfold stN at h
     rwa [hX2,hLC]at h)
    obtain⟨r,hr⟩:∃r,qT k2 N [] LC=r:=⟨_,rfl⟩
    have R:Hid (kC k1 k2 n d st=Vs k1 k2 n st r):=iH (by
     unfold kC
     rw [iF (by rw [HVS.out];simp),iF (by rw [HVC.out];simp),iF g3,hN]
     unfold stN
     rw [hX2,hLC,hr])
    have HRE:=iH hr
    clear hN hX2 hLC hr g3
    go_enter Tryz.func40,Tryz.ntmps40
    go_upto_region 1 with fail
    rw [<-HWS.out,<-HWC.out,<-HW2.out,<-HW3.out]
    obtain⟨f0,f1,f2⟩:=CS.out wa iB
    go_upto_region 6 with (first
     |(go_at_call 49;refine(HNX.out _ _ wc (H1.out.lift HBC.out) (H2.out.lift HBC.out)).mono ?_;rintro e wn ⟨x,y,z,rfl,hx,hy,hz,hb⟩;obtain⟨xA,xc,hp⟩:=Bs.formL hx;subst hp;obtain⟨yA,yc,hp⟩:=Bs.formL hy;subst hp;obtain⟨zA,zc,hp⟩:=Bs.formL hz;subst hp;have HX:=iH hx;have HY:=iH hy;have HZ:=iH hz;have HBN:=iH (HBC.out.trans (hb.mono HBC.out.size));obtain⟨u0,u1,u2,u3,uf⟩:=kd (xZ wn);have uf0:=uf 0;have uf1:=uf 1;have uf2:=uf 2;have uf3:=uf 3;clear uf hx hy hz hb)
     |(go_at_call 76;have M1:=HBV;go_loud(refine(x8 _ d st wv (HCV.out wv HBV.out)).mono ?_;rw [HVC.out];rintro e wc ⟨rfl,hb⟩;have hb2:=HBV.out.trans (hb.mono HBV.out.size);have HBC:=iH hb2;clear g0 g1;obtain⟨g0,g1⟩:=CC.out wc hb2;clear f0 f1 f2;obtain⟨f0,f1,f2⟩:=CS.out wc hb2;clear hb hb2))
     |(go_at_call 47;refine(jr _ k1 k2 n _ wa HSV.out).mono ?_;rw [HVS.out];rintro e wv ⟨rfl,hb⟩;have HBV:=iH hb;obtain⟨g0,g1⟩:=CC.out wv hb;clear hb))
    clear u0 u1 u2 u3 uf0 uf1 uf2 uf3 g0 g1 f0 f1 f2 t3
    obtain⟨wu,hwu⟩:∃wu,wu=wn.alloc (.cells #[.slice xA k1.length xc,.slice yA k2.length yc,.int .i64 (n+1),.slice zA N.length zc] 77):=⟨_,rfl⟩
    rw [<-hwu]
    have hbu:Below wn.heap.size wn wu:=by rw [hwu];exact iA
    have hur:wu.heap[wn.heap.size]?=some (.cells #[.slice xA k1.length xc,.slice yA k2.length yc,.int .i64 (n+1),.slice zA N.length zc] 77 (0,0)):=by rw [hwu];exact iN
    have hult:=(iG hur)
    have CU:Hid (∀W,Below wu.heap.size wu W->W.cell? ⟨wn.heap.size,0,none⟩=some (.slice xA k1.length xc)/\W.cell? ⟨wn.heap.size,1,none⟩=some (.slice yA k2.length yc)/\W.cell? ⟨wn.heap.size,2,none⟩=some (.int .i64 (n+1))/\W.cell? ⟨wn.heap.size,3,none⟩=some (.slice zA N.length zc)):=iH fun W h=>(by obtain⟨a,b,c,d,_⟩:=kd ((h.block _ hult).trans hur);exact⟨a,b,c,d⟩)
    have RU:Hid (∀W,Below wu.heap.size wu W->W.heap[wn.heap.size]?=some (.cells #[.slice xA k1.length xc,.slice yA k2.length yc,.int .i64 (n+1),.slice zA N.length zc] 77 (0,0))):=iH fun W h=>(h.block _ hult).trans hur
    have HBAU:=iH (HBN.out.trans (hbu.mono HBN.out.size))
    have XU:=iH (HX.out.lift hbu);have YU:=iH (HY.out.lift hbu);have ZU:=iH (HZ.out.lift hbu);have DU:=iH (H3.out.lift HBAU.out)
    clear hwu hbu hur hult
    have HSL:Hid (∀(oA:Option Addr) (oc:Nat) (w:World),Below wu.heap.size wu w->OwnN w wu.heap.size (.slice oA LC.len oc) LC->Calls Tryz.prog 52 #[.agg #[.slice xA k1.length xc,.slice yA k2.length yc,.int .i64 (n+1),.slice zA N.length zc],.slice none 0 0,.slice oA LC.len oc] w (XP r wu.heap.size (.slice oA LC.len oc) w)):=iH (fun oA oc w h1 h2=>by rw [<-HRE.out];exact Xd (.slice xA k1.length xc) (.slice yA k2.length yc) (.slice zA N.length zc) (.slice none 0 0) (.slice oA LC.len oc) (n+1) k2 N [] LC LK2.out LN.out (by simp) LLA.out LLE.out wu.heap.size w (YU.out.lift h1) (ZU.out.lift h1) (BsS.nil0 _ _) h2 h1.size)
    refine je 16 [some 30,some 31,some 32,some 33,some 34,some 35,some 36,some 37,some 38,some 39,some 40,some 29,some 41,some 42,some 8,some 9] [[],[],[],[2],[1,2,3],[],[5],[1,2,3,4,5,6],[1,2,3,4,5,6,7],[1,2,3,4,5,6,7,8],[0,1,2,3,4,5,6,7,8,9],[0,1,2,3,4,5,6,7,8,9,10],[0,1,2,3,4,5,6,7,8,9,10,11],[0,1,2,3,4,5,6,7,8,9,10,11],[0,1,2,3,4,5,6,7,8,9,10,11,12],[0,1,2,3,4,5,6,7,8,9,10,11,12,13,14]]
     (JC [4,7,8,9,10] (fun k u w1=>Below wu.heap.size wu w1/\match k with
         |0=>True
         |1=>∃A c,u 0=.slice A (j6 k1 N d).len c/\OwnN w1 wu.heap.size (.slice A (j6 k1 N d).len c) (j6 k1 N d)
         |2=>∃A c xA xc,u 0=.slice A (j6 k1 N d).len c/\OwnN w1 wu.heap.size (.slice A (j6 k1 N d).len c) (j6 k1 N d)/\u 1=.agg #[.int .i64 153,.slice xA X2.length xc,.slice none 0 0]/\BsS w1 (zw wu.heap.size w1 (.slice A (j6 k1 N d).len c)) (.slice xA X2.length xc) X2
         |3=>∃A c xA xc W,u 0=.slice A (j6 k1 N d).len c/\OwnN W wu.heap.size (.slice A (j6 k1 N d).len c) (j6 k1 N d)/\BsS W (zw wu.heap.size W (.slice A (j6 k1 N d).len c)) (.slice xA X2.length xc) X2/\Below wu.heap.size wu W/\u 2=.slice (some ⟨W.heap.size,0,none⟩) 1 1/\w1=W.alloc (.cells #[.int .i64 153,.slice xA X2.length xc,.slice none 0 0] 61)
         |4=>∃A c,u 3=.slice A LC.len c/\OwnN w1 wu.heap.size (.slice A LC.len c) LC
         |_=>∃A c,u 4=.tuple #[.slice A (bytesOf r).length c,.int .i64 (jQ r)]/\BsS w1 (New wu w1) (.slice A (bytesOf r).length c) (bytesOf r))) (fun _ _=>True)
     [fun v _=>v 0=.agg #[.slice xA k1.length xc,.slice yA k2.length yc,.int .i64 (n+1),.slice zA N.length zc],
      fun v _=>v 1=.agg #[.slice xA k1.length xc,.slice yA k2.length yc,.int .i64 (n+1),.slice zA N.length zc],
      fun v _=>v 2=.pointer (some ⟨w.heap.size+1,0,none⟩),
      fun v _=>v 3=.slice A3 d.length d3,
      fun v w1=>True,
      fun v _=>v 5=.pointer (some ⟨w.heap.size+1,1,none⟩),
      fun v _=>v 6=.int .i64 st,
      fun v w1=>True,
      fun v w1=>∃g,v 8=.slice (some ⟨g,0,none⟩) 1 1,
      fun v w1=>True,
      fun v w1=>True,
      fun v w1=>v 11=v 10,
      fun v w1=>∃a c,v 10=.tuple #[.slice a (bytesOf r).length c,.int .i64 (jQ r)]/\v 12=.slice a (bytesOf r).length c,
      fun v w1=>v 13=.int .i64 (jQ r),
      fun v w1=>∃a c,v 10=.tuple #[.slice a (bytesOf r).length c,.int .i64 (jQ r)]/\v 14=.slice a (bytesOf r).length c,
      fun v w1=>v 15=.int .i64 (jQ r)]
     (by kernel_rfl) (by kernel_rfl) (fun v=>JC.start ⟨iB.drew,trivial⟩) ?st6 ?steps6 ?tail6
    case st6=>
     exact(.cons (fun _ _ _ _ _ _ h=>h) (.cons (fun _ _ _ _ _ _ h=>h) (.cons (fun _ _ _ _ _ _ h=>h) (.cons (fun _ _ _ _ _ _ h=>h) (.cons (fun _ _ _ _ _ _ h=>h) (.cons (fun _ _ _ _ _ _ h=>h) (.cons (fun _ _ _ _ _ _ h=>h) (.cons (fun _ _ _ _ _ _ h=>h) (.cons (fun _ _ _ _ _ _ h=>h) (.cons (fun _ _ _ _ _ _ h=>h) (.cons (fun _ _ _ _ _ _ h=>h) (.cons (fun _ _ _ _ _ _ h=>h) (.cons (fun _ _ _ _ _ _ h=>h) (.cons (fun _ _ _ _ _ _ h=>h) (.cons (fun _ _ _ _ _ _ h=>h) (.cons (fun _ _ _ _ _ _ h=>h) .nil))))))))))))))))
    case steps6=>
     simp only [iI,iK]
     refine(.cons ?_ (.cons ?_ (.cons ?_ (.cons ?_ (.cons ?_ (.cons ?_ (.cons ?_ (.cons ?_ (.cons ?_ (.cons ?_ (.cons ?_ (.cons ?_ (.cons ?_ (.cons ?_ (.cons ?_ (.cons ?_ .nil))))))))))))))))
     all_goals(intro L v w1 hJ hL hA hF K hK;simp only [jf,Act.put,iM,Nat.reduceAdd,iS,iC,iD]at hK |-)
     ·have hi:Below wu.heap.size wu w1:=(JC.inv (I:=fun w1=>Below wu.heap.size wu w1) (fun k u w1 h=>h.1) hJ)
      obtain⟨c0,c1,c2,c3⟩:=CU.out _ hi
      go_simp
      refine hK _ _ (hJ.same 0 (by decide)) trivial ?_
      first|exact rfl|exact j5 _
     ·have hi:Below wu.heap.size wu w1:=(JC.inv (I:=fun w1=>Below wu.heap.size wu w1) (fun k u w1 h=>h.1) hJ)
      obtain⟨c0,c1,c2,c3⟩:=CU.out _ hi
      go_simp
      refine hK _ _ (hJ.same 1 (by decide)) trivial ?_
      first|exact rfl|exact j5 _
     ·go_simp
      refine hK _ _ (hJ.same 2 (by decide)) trivial ?_
      first|exact rfl|exact j5 _
     ·have e2:v 2=.pointer (some ⟨w.heap.size+1,0,none⟩):=hF 2 (hA 2 (by simp))
      have hi:Below wu.heap.size wu w1:=(JC.inv (I:=fun w1=>Below wu.heap.size wu w1) (fun k u w1 h=>h.1) hJ)
      obtain⟨c0,c1⟩:=CC.out _ (HBAU.out.trans (hi.mono HBAU.out.size))
      simp only [e2]at hK
      go_simp
      refine hK _ _ (hJ.same 3 (by decide)) trivial ?_
      first|exact rfl|exact j5 _
     ·have e1:v 1=.agg #[.slice xA k1.length xc,.slice yA k2.length yc,.int .i64 (n+1),.slice zA N.length zc]:=hF 1 (hA 1 (by simp))
      have e3:v 3=.slice A3 d.length d3:=hF 3 (hA 3 (by simp))
      simp only [e1,e3]at hK
      have hi:Below wu.heap.size wu w1:=(JC.inv (I:=fun w1=>Below wu.heap.size wu w1) (fun k u w1 h=>h.1) hJ)
      have hG:=hJ.at_ 0 (by decide) hL (.inl rfl)
      go_simp
      refine(KA _ _ _ _ _ k1 N d LK1.out LN.out LD.out w1 (XU.out.lift hi) (ZU.out.lift hi) (DU.out.lift hi)).mono ?_
      rintro e wk ⟨o,rfl,ho,hb⟩
      obtain⟨oA,oc,hp⟩:=ho.form
      subst hp
      refine hK _ _ (hJ.next 0 (by decide) hL (.inl rfl) (by decide) ?_) trivial trivial
      exact⟨hi.trans (hb.mono hi.size),oA,oc,rfl,Xo ho hi.size⟩
     ·go_simp
      refine hK _ _ (hJ.same 5 (by decide)) trivial ?_
      first|exact rfl|exact j5 _
     ·have e5:v 5=.pointer (some ⟨w.heap.size+1,1,none⟩):=hF 5 (hA 5 (by simp))
      have hi:Below wu.heap.size wu w1:=(JC.inv (I:=fun w1=>Below wu.heap.size wu w1) (fun k u w1 h=>h.1) hJ)
      obtain⟨c0,c1⟩:=CC.out _ (HBAU.out.trans (hi.mono HBAU.out.size))
      simp only [e5]at hK
      go_simp
      refine hK _ _ (hJ.same 6 (by decide)) trivial ?_
      first|exact rfl|exact j5 _
     ·have e6:v 6=.int .i64 st:=hF 6 (hA 6 (by simp))
      simp only [e6]at hK
      have hG:=hJ.at_ 1 (by decide) hL (.inr (hA _ (by simp)))
      obtain⟨hi,oA,oc,hu,ho⟩:=hG
      go_simp
      refine(HST.out w1).mono ?_
      rintro e wk ⟨xA,xc,rfl,hx,hb⟩
      refine hK _ _ (hJ.next 1 (by decide) hL (.inr (hA _ (by simp))) (by decide) ?_) trivial trivial
      exact⟨hi.trans (hb.mono hi.size),oA,oc,xA,xc,hu,ho.below hb,rfl,qO ho hx hb hi.size⟩
     ·have hG:=hJ.at_ 2 (by decide) hL (.inr (hA _ (by simp)))
      obtain⟨hi,oA,oc,xA,xc,hu,ho,hu1,hx⟩:=hG
      have e7:v 7=.agg #[.int .i64 153,.slice xA X2.length xc,.slice none 0 0]:=hu1
      simp only [e7]at hK
      go_simp
      refine hK _ _ (hJ.next 2 (by decide) hL (.inr (hA _ (by simp))) (by decide) ?_) trivial ⟨_,rfl⟩
      exact⟨hi.alloc hi.size _,oA,oc,xA,xc,w1,hu,ho,hx,hi,rfl,rfl⟩
     ·have hG:=hJ.at_ 3 (by decide) hL (.inr (hA _ (by simp)))
      obtain⟨hi,oA,oc,xA,xc,W,hu,ho,hx,hiW,hu2,hw⟩:=hG
      have e4:v 4=.slice oA (j6 k1 N d).len oc:=hu
      have e8:v 8=.slice (some ⟨W.heap.size,0,none⟩) 1 1:=hu2
      simp only [e4,e8]at hK |-
      have hn3:∀w2 (y:Value),(fun k u w1=>Below wu.heap.size wu w1/\match k with
       |0=>True
       |1=>∃A c,u 0=.slice A (j6 k1 N d).len c/\OwnN w1 wu.heap.size (.slice A (j6 k1 N d).len c) (j6 k1 N d)
       |2=>∃A c xA xc,u 0=.slice A (j6 k1 N d).len c/\OwnN w1 wu.heap.size (.slice A (j6 k1 N d).len c) (j6 k1 N d)/\u 1=.agg #[.int .i64 153,.slice xA X2.length xc,.slice none 0 0]/\BsS w1 (zw wu.heap.size w1 (.slice A (j6 k1 N d).len c)) (.slice xA X2.length xc) X2
       |3=>∃A c xA xc W,u 0=.slice A (j6 k1 N d).len c/\OwnN W wu.heap.size (.slice A (j6 k1 N d).len c) (j6 k1 N d)/\BsS W (zw wu.heap.size W (.slice A (j6 k1 N d).len c)) (.slice xA X2.length xc) X2/\Below wu.heap.size wu W/\u 2=.slice (some ⟨W.heap.size,0,none⟩) 1 1/\w1=W.alloc (.cells #[.int .i64 153,.slice xA X2.length xc,.slice none 0 0] 61)
       |4=>∃A c,u 3=.slice A LC.len c/\OwnN w1 wu.heap.size (.slice A LC.len c) LC
       |_=>∃A c,u 4=.tuple #[.slice A (bytesOf r).length c,.int .i64 (jQ r)]/\BsS w1 (New wu w1) (.slice A (bytesOf r).length c) (bytesOf r)) 4 (fun j=>if j<3 then v ([4,7,8,9,10].getD j 0)else if j=3 then y else undef) w2->JC [4,7,8,9,10] (fun k u w1=>Below wu.heap.size wu w1/\match k with
       |0=>True
       |1=>∃A c,u 0=.slice A (j6 k1 N d).len c/\OwnN w1 wu.heap.size (.slice A (j6 k1 N d).len c) (j6 k1 N d)
       |2=>∃A c xA xc,u 0=.slice A (j6 k1 N d).len c/\OwnN w1 wu.heap.size (.slice A (j6 k1 N d).len c) (j6 k1 N d)/\u 1=.agg #[.int .i64 153,.slice xA X2.length xc,.slice none 0 0]/\BsS w1 (zw wu.heap.size w1 (.slice A (j6 k1 N d).len c)) (.slice xA X2.length xc) X2
       |3=>∃A c xA xc W,u 0=.slice A (j6 k1 N d).len c/\OwnN W wu.heap.size (.slice A (j6 k1 N d).len c) (j6 k1 N d)/\BsS W (zw wu.heap.size W (.slice A (j6 k1 N d).len c)) (.slice xA X2.length xc) X2/\Below wu.heap.size wu W/\u 2=.slice (some ⟨W.heap.size,0,none⟩) 1 1/\w1=W.alloc (.cells #[.int .i64 153,.slice xA X2.length xc,.slice none 0 0] 61)
       |4=>∃A c,u 3=.slice A LC.len c/\OwnN w1 wu.heap.size (.slice A LC.len c) LC
       |_=>∃A c,u 4=.tuple #[.slice A (bytesOf r).length c,.int .i64 (jQ r)]/\BsS w1 (New wu w1) (.slice A (bytesOf r).length c) (bytesOf r)) (jp L 9) (jN v 9 y) w2:=fun w2 y hg=>(hJ.next 3 (by decide) hL (.inr (hA _ (by simp))) (by decide) hg)
      subst hw
      rw [iT (show Region.wanted _ _=true from rfl)]
      refine Yi (.tmp 34) (.tmp 38) rfl wu.heap.size (.slice oA (j6 k1 N d).len oc) (j6 k1 N d) (by simp [Act.eval]) ho 153 X2 .nil (.slice xA X2.length xc) (.slice none 0 0) _ W.heap.size (by simp [Act.eval]) rfl j5c hx (NsS.nil0 _ _) HCL.out hiW.size ?_
      intro o2 w2 hg2
      rw [HLC.out]at hg2
      obtain⟨oA2,oc2,hp⟩:=hg2.1.form
      subst hp
      exact hK _ _ (hn3 _ _ ⟨hiW.trans hg2.2.1,oA2,oc2,rfl,hg2.1⟩) trivial trivial
     ·have e0:v 0=.agg #[.slice xA k1.length xc,.slice yA k2.length yc,.int .i64 (n+1),.slice zA N.length zc]:=hF 0 (hA 0 (by simp))
      simp only [e0]at hK
      have hG:=hJ.at_ 4 (by decide) hL (.inr (hA _ (by simp)))
      obtain⟨hi,oA,oc,hu,ho⟩:=hG
      have e9:v 9=.slice oA LC.len oc:=hu
      simp only [e9]at hK |-
      go_simp
      refine(HSL.out oA oc w1 hi ho).mono ?_
      rintro e w5 ⟨v5,rfl,hs,hb,_⟩
      obtain⟨A5,C5,hv5⟩:=Bs.formL hs
      subst hv5
      refine hK _ _ (hJ.next 4 (by decide) hL (.inr (hA _ (by simp))) (by decide) ?_) trivial trivial
      exact⟨hi.trans hb,A5,C5,rfl,BsS.keep hs fun g hg _=>⟨rfl,Nat.le_trans hi.size hg.1,hg.2⟩⟩
     ·have hq:=hJ
      go_simp
      exact hK _ _ (hJ.same 11 (by decide)) trivial rfl
     ·obtain⟨_,a,c,hu,_⟩:=hJ.fin (fun j hj=>by have hj:j<5:=hj;rcases(by omega:j=0\/j=1\/j=2\/j=3\/j=4)with rfl|rfl|rfl|rfl|rfl<;>exact hA _ (by simp))
      have e10:v 10=.tuple #[.slice a (bytesOf r).length c,.int .i64 (jQ r)]:=hu
      have e11:v 11=v 10:=hF 11 (hA 11 (by simp))
      rw [e10]at e11
      simp only [e10,e11]at hK
      go_simp
      exact hK _ _ (hJ.same 12 (by decide)) trivial ⟨a,c,e10,rfl⟩
     ·obtain⟨_,a,c,hu,_⟩:=hJ.fin (fun j hj=>by have hj:j<5:=hj;rcases(by omega:j=0\/j=1\/j=2\/j=3\/j=4)with rfl|rfl|rfl|rfl|rfl<;>exact hA _ (by simp))
      have e10:v 10=.tuple #[.slice a (bytesOf r).length c,.int .i64 (jQ r)]:=hu
      have e11:v 11=v 10:=hF 11 (hA 11 (by simp))
      rw [e10]at e11
      simp only [e10,e11]at hK
      go_simp
      exact hK _ _ (hJ.same 13 (by decide)) trivial rfl
     ·obtain⟨a,c,e10,e12⟩:∃a c,v 10=.tuple #[.slice a (bytesOf r).length c,.int .i64 (jQ r)]/\v 12=.slice a (bytesOf r).length c:=hF 12 (hA 12 (by simp))
      simp only [e10,e12]at hK
      go_simp
      exact hK _ _ (hJ.same 14 (by decide)) trivial ⟨a,c,e10,rfl⟩
     ·have e13:v 13=.int .i64 (jQ r):=hF 13 (hA 13 (by simp))
      simp only [e13]at hK
      go_simp
      exact hK _ _ (hJ.same 15 (by decide)) trivial rfl
    case tail6=>
     intro v w1 hJ hF
     have e0:v 0=.agg #[.slice xA k1.length xc,.slice yA k2.length yc,.int .i64 (n+1),.slice zA N.length zc]:=hF 0 (by simp)
     have e1:v 1=.agg #[.slice xA k1.length xc,.slice yA k2.length yc,.int .i64 (n+1),.slice zA N.length zc]:=hF 1 (by simp)
     have e2:v 2=.pointer (some ⟨w.heap.size+1,0,none⟩):=hF 2 (by simp)
     have e3:v 3=.slice A3 d.length d3:=hF 3 (by simp)
     have e5:v 5=.pointer (some ⟨w.heap.size+1,1,none⟩):=hF 5 (by simp)
     have e6:v 6=.int .i64 st:=hF 6 (by simp)
     simp only [iE,iJ,jf,Act.put,iM,Nat.reduceAdd,iS,iC,iD]
     obtain⟨a10,c10,e10,e14⟩:∃a c,v 10=.tuple #[.slice a (bytesOf r).length c,.int .i64 (jQ r)]/\v 14=.slice a (bytesOf r).length c:=hF 14 (by simp)
     have e15:v 15=.int .i64 (jQ r):=hF 15 (by simp)
     simp only [e14,e15]
     obtain⟨hb3,A5,c5,hu,hv⟩:=hJ.fin (fun j hj=>decide_eq_true (by have hj:j<5:=hj;rcases(by omega:j=0\/j=1\/j=2\/j=3\/j=4)with rfl|rfl|rfl|rfl|rfl<;>decide))
     have hu:v 10=.tuple #[.slice A5 (bytesOf r).length c5,.int .i64 (jQ r)]:=hu
     have heq:Value.slice a10 (bytesOf r).length c10=.slice A5 (bytesOf r).length c5:=j05 (e10.symm.trans hu)
     rw [heq]
     clear heq e10 hu
     have HV3:=iH (BsS.keep hv (w':=w1) (S':=(·<w1.heap.size)) fun g hg _=>⟨rfl,hg.2⟩)
     obtain⟨w3,rfl⟩:∃w3:World,w3=w1:=⟨_,rfl⟩
     have HBU3:=iH hb3
     have HB3:=iH (HBAU.out.trans (hb3.mono HBAU.out.size))
     obtain⟨vA,hvA⟩:∃vA,vA=A5:=⟨_,rfl⟩
     obtain⟨vc,hvc⟩:∃vc,vc=c5:=⟨_,rfl⟩
     rw [<-hvA,<-hvc]at HV3 |-
     clear hvA hvc hv hb3 hJ hF e0 e1 e2 e3 e5 e6 e14 e15
     rcases r with x|b
     ·have hx:=Xy HRE.out
      have t9:(x != 0)=true:=by simpa using hx
      have R9:Hid (kC k1 k2 n d st=(x,[],0,[],[],0)):=iH R.out
      rw [show jQ (.error x:Except Int (List UInt8))=x from rfl]
      clear hx
      go_upto_region 8 with fail
      obtain⟨r0,r1,rf⟩:=jd (R2.out w3 HB3.out);have rf0:=rf 0;have rf1:=rf 1;clear rf;obtain⟨s0,s1,s2,sf⟩:=j7 (R3.out w3 HB3.out);have sf0:=sf 0;have sf1:=sf 1;have sf2:=sf 2;clear sf
      go_wp2_with fail
      obtain⟨q2,q3⟩:=jm (R2.out w3 HB3.out) (R3.out w3 HB3.out) (.slice none 0 0) (.int .i64 0) (.slice none 0 0) (.slice none 0 0) (.int .i64 0)
      obtain⟨y0,y1,_⟩:=jd q2
      obtain⟨x0,x1,x2,_⟩:=j7 q3
      refine bodyPost_ret (v:=.tuple #[.agg #[.slice none 0 0,.int .i64 0],.agg #[.slice none 0 0,.slice none 0 0,.int .i64 0],.int .i64 x]) (by simp only [qm,set3]at y0 y1 x0 x1 x2;simp [results,Tryz.results40,go_sem,y0,y1,x0,x1,x2]) rfl ?_
      rw [R9.out]
      exact⟨_,_,rfl,⟨_,rfl,BsS.nil0 _ _⟩,⟨_,_,rfl,BsS.nil0 _ _,BsS.nil0 _ _⟩,ji (HB.out.trans (Below.mono HB3.out HB.out.size)) (by omega)⟩
     ·rw [show jQ (.ok b:Except Int (List UInt8))=0 from rfl,show bytesOf (.ok b:Except Int (List UInt8))=b from rfl]
      rw [show bytesOf (.ok b:Except Int (List UInt8))=b from rfl]at HV3
      have R9:Hid (kC k1 k2 n d st=(0,b,st,k1,k2,n+1)):=iH R.out
      go_upto_region 9 with fail
      obtain⟨wd,hwd⟩:∃wd,wd=w3.drew:=⟨_,rfl⟩
      have HWD:=iH hwd
      have RC4:Hid (wd.heap[w.heap.size+1]?=some (.cells #[.slice A3 d.length d3,.int .i64 st] 44 (0,0))):=iH (by rw [hwd];exact RC.out w3 HB3.out)
      have RU4:Hid (wd.heap[wn.heap.size]?=some (.cells #[.slice xA k1.length xc,.slice yA k2.length yc,.int .i64 (n+1),.slice zA N.length zc] 77 (0,0))):=iH (by rw [hwd];exact RU.out w3 HBU3.out)
      have RR4:Hid (wd.heap[(w.heap.size+1+1)]?=some (.cells #[.slice none 0 0,.int .i64 0] 44 (0,0))):=iH (by rw [hwd];exact R2.out w3 HB3.out)
      have RS4:Hid (wd.heap[(w.heap.size+1+1+1)]?=some (.cells #[.slice none 0 0,.slice none 0 0,.int .i64 0] 29 (0,0))):=iH (by rw [hwd];exact R3.out w3 HB3.out)
      have HB4:Hid (Below w.heap.size w wd):=iH (by rw [hwd];exact(HB.out.trans (HB3.out.mono HB.out.size)).drew)
      have V4:Hid (Bs wd wd.heap.size (.slice vA b.length vc) b):=iH (by rw [hwd];exact HV3.out)
      have X4:Hid (Bs wd wd.heap.size (.slice xA k1.length xc) k1):=iH (by rw [hwd];exact XU.out.lift HBU3.out.drew)
      have Y4:Hid (Bs wd wd.heap.size (.slice yA k2.length yc) k2):=iH (by rw [hwd];exact YU.out.lift HBU3.out.drew)
      have NE1:Hid (w.heap.size+1≠(w.heap.size+1+1)):=iH (by omega)
      have NE3:Hid (wn.heap.size≠(w.heap.size+1+1)):=iH (by have:=HZA.out;have:=HBN.out.size;omega)
      clear hwd
      refine je 7 [some 48,some 49,some 50,some 51,some 52,some 53,none] [[],[],[1],[0,1,2],[],[4],[0,1,2,3]]
       (J2 wd (w.heap.size+1+1) 6 (.slice vA b.length vc) (.int .i64 st)) (fun _ _=>True)
       [fun v _=>v 0=.slice vA b.length vc,
        fun v _=>v 1=.pointer (some ⟨w.heap.size+1,1,none⟩),
        fun v _=>v 2=.int .i64 st,
        fun v _=>v 3=.agg #[.slice vA b.length vc,.int .i64 st],
        fun v _=>v 4=.pointer (some ⟨wn.heap.size,0,none⟩),
        fun v _=>v 5=.agg #[.slice xA k1.length xc,.slice yA k2.length yc,.int .i64 (n+1)],
        fun v w1=>True]
       (by kernel_rfl) (by kernel_rfl) (fun _=>HWD.out.symm.trans (iF (by decide)).symm) ?st9 ?steps9 ?tail9
      case st9=>
       exact(.cons (fun _ _ _ _ _ _ h=>h) (.cons (fun _ _ _ _ _ _ h=>h) (.cons (fun _ _ _ _ _ _ h=>h) (.cons (fun _ _ _ _ _ _ h=>h) (.cons (fun _ _ _ _ _ _ h=>h) (.cons (fun _ _ _ _ _ _ h=>h) (.cons (fun _ _ _ _ _ _ h=>h) .nil)))))))
      case steps9=>
       simp only [iI,iK]
       refine(.cons ?_ (.cons ?_ (.cons ?_ (.cons ?_ (.cons ?_ (.cons ?_ (.cons ?_ .nil)))))))
       all_goals(intro L v w1 hJ hL hA hF K hK;simp only [jf,Act.put,iM,Nat.reduceAdd,iS,iC,iD]at hK |-)
       ·go_simp
        refine hK _ _ (J2.step hJ 0 (by decide)) trivial ?_
        first|exact rfl|exact j5 _
       ·go_simp
        refine hK _ _ (J2.step hJ 1 (by decide)) trivial ?_
        first|exact rfl|exact j5 _
       ·have e1:v 1=.pointer (some ⟨w.heap.size+1,1,none⟩):=hF 1 (hA 1 (by simp))
        obtain⟨c0,c1,_⟩:=jd ((J2.row hJ NE1.out).trans RC4.out)
        simp only [e1]at hK
        go_simp
        refine hK _ _ (J2.step hJ 2 (by decide)) trivial ?_
        first|exact rfl|exact j5 _
       ·have e0:v 0=.slice vA b.length vc:=hF 0 (hA 0 (by simp))
        have e2:v 2=.int .i64 st:=hF 2 (hA 2 (by simp))
        simp only [e0,e2]at hK
        go_simp
        refine hK _ _ (J2.step hJ 3 (by decide)) trivial ?_
        first|exact rfl|exact j5 _
       ·go_simp
        refine hK _ _ (J2.step hJ 4 (by decide)) trivial ?_
        first|exact rfl|exact j5 _
       ·have e4:v 4=.pointer (some ⟨wn.heap.size,0,none⟩):=hF 4 (hA 4 (by simp))
        obtain⟨c0,c1,c2,c3,_⟩:=kd ((J2.row hJ NE3.out).trans RU4.out)
        simp only [e4]at hK
        go_simp
        refine hK _ _ (J2.step hJ 5 (by decide)) trivial ?_
        first|exact rfl|exact j5 _
       ·have e3:v 3=.agg #[.slice vA b.length vc,.int .i64 st]:=hF 3 (hA 3 (by simp))
        simp only [e3]at hK
        obtain rfl:=J2.old hJ hL
        obtain⟨r0,r1,rf⟩:=jd RR4.out
        have rf0:=rf 0;have rf1:=rf 1;clear rf
        have e3:v 3=.agg #[.slice vA b.length vc,.int .i64 st]:=hF 3 (hA 3 (by simp))
        simp only [e3]at hK |-
        have hJ2:=iH hJ;have hL2:=iH hL
        clear hJ hL hF hA e3
        go_simp
        exact hK undef _ (J2.store hJ2.out hL2.out) trivial trivial
      case tail9=>
       intro v w1 hJ hF
       have e0:v 0=.slice vA b.length vc:=hF 0 (by simp)
       have e1:v 1=.pointer (some ⟨w.heap.size+1,1,none⟩):=hF 1 (by simp)
       have e2:v 2=.int .i64 st:=hF 2 (by simp)
       have e3:v 3=.agg #[.slice vA b.length vc,.int .i64 st]:=hF 3 (by simp)
       have e4:v 4=.pointer (some ⟨wn.heap.size,0,none⟩):=hF 4 (by simp)
       have e5:v 5=.agg #[.slice xA k1.length xc,.slice yA k2.length yc,.int .i64 (n+1)]:=hF 5 (by simp)
       simp only [iE,iJ,jf,Act.put,iM,Nat.reduceAdd,iS,iC,iD]
       simp only [e5]
       clear e0 e1 e2 e3 e4 e5 hF
       obtain rfl:=J2.all hJ rfl
       have RS5:Hid ((qm wd (w.heap.size+1+1) (.slice vA b.length vc) (.int .i64 st)).heap[(w.heap.size+1+1+1)]?=some (.cells #[.slice none 0 0,.slice none 0 0,.int .i64 0] 29 (0,0))):=iH ((qe (by omega)).trans RS4.out)
       obtain⟨s0,s1,s2,sf⟩:=j7 RS5.out
       have sf0:=sf 0;have sf1:=sf 1;have sf2:=sf 2;clear sf
       obtain⟨w5,hw5⟩:∃w5,w5=qm wd (w.heap.size+1+1) (.slice vA b.length vc) (.int .i64 st):=⟨_,rfl⟩
       rw [<-hw5]at s0 s1 s2 sf0 sf1 sf2 |-
       have HW5:=iH hw5
       clear hw5 hJ
       go_wp2_with fail
       have q:=jm (W:=wd) RR4.out RS4.out (.slice vA b.length vc) (.int .i64 st) (.slice xA k1.length xc) (.slice yA k2.length yc) (.int .i64 (n+1))
       rw [<-HW5.out]at q
       obtain⟨q2,q3⟩:=q
       obtain⟨y0,y1,_⟩:=jd q2
       obtain⟨x0,x1,x2,_⟩:=j7 q3
       refine bodyPost_ret (v:=.tuple #[.agg #[.slice vA b.length vc,.int .i64 st],.agg #[.slice xA k1.length xc,.slice yA k2.length yc,.int .i64 (n+1)],.int .i64 0]) (by simp only [set3]at y0 y1 x0 x1 x2;simp [results,Tryz.results40,go_sem,y0,y1,x0,x1,x2]) rfl ?_
       rw [R9.out]
       have hk:=fun(v:Value) (L:List UInt8) (h:Bs wd wd.heap.size v L)=>yt (W:=wd) RR4.out RS4.out (.slice vA b.length vc) (.int .i64 st) (.slice xA k1.length xc) (.slice yA k2.length yc) (.int .i64 (n+1)) h
       rw [<-HW5.out]at hk
       have hbw:=ji (p:=(w.heap.size+1+1)) (a:=.slice vA b.length vc) (b:=.int .i64 st) (x:=.slice xA k1.length xc) (y:=.slice yA k2.length yc) (z:=.int .i64 (n+1)) HB4.out (by omega)
       rw [<-HW5.out]at hbw
       exact⟨_,_,rfl,⟨_,rfl,hk _ _ V4.out⟩,⟨_,_,rfl,hk _ _ X4.out,hk _ _ Y4.out⟩,hbw⟩
  ·have HVC:Hid (vR d st=false):=iH (by simpa using v2)
   have R:Hid (kC k1 k2 n d st=(14,[],0,[],[],0)):=iH (by unfold kC;rw [iF (by rw [v1];simp),iT HVC.out])
   clear v1 v2
   go_enter Tryz.func40,Tryz.ntmps40
   go_upto_region 1 with fail
   rw [<-HWS.out,<-HWC.out,<-HW2.out,<-HW3.out]
   obtain⟨f0,f1,f2⟩:=CS.out wa iB
   go_upto_region 2 with (first
    |(go_at_call 76;have M1:=HBV;go_loud(refine(x8 _ d st wv (HCV.out wv HBV.out)).mono ?_;rw [HVC.out];rintro e wc ⟨rfl,hb⟩;have hb2:=HBV.out.trans (hb.mono HBV.out.size);have HBC:=iH hb2;clear g0 g1;obtain⟨g0,g1⟩:=CC.out wc hb2;clear f0 f1 f2;obtain⟨f0,f1,f2⟩:=CS.out wc hb2;clear hb hb2))
    |(go_at_call 47;refine(jr _ k1 k2 n _ wa HSV.out).mono ?_;rw [HVS.out];rintro e wv ⟨rfl,hb⟩;have HBV:=iH hb;obtain⟨g0,g1⟩:=CC.out wv hb;clear hb))
   clear f0 f1 f2 g0 g1
   obtain⟨r0,r1,rf⟩:=jd (R2.out wc HBC.out);have rf0:=rf 0;have rf1:=rf 1;clear rf;obtain⟨s0,s1,s2,sf⟩:=j7 (R3.out wc HBC.out);have sf0:=sf 0;have sf1:=sf 1;have sf2:=sf 2;clear sf
   go_wp2_with fail
   obtain⟨q2,q3⟩:=jm (R2.out wc HBC.out) (R3.out wc HBC.out) (.slice none 0 0) (.int .i64 0) (.slice none 0 0) (.slice none 0 0) (.int .i64 0)
   obtain⟨y0,y1,_⟩:=jd q2
   obtain⟨x0,x1,x2,_⟩:=j7 q3
   refine bodyPost_ret (v:=.tuple #[.agg #[.slice none 0 0,.int .i64 0],.agg #[.slice none 0 0,.slice none 0 0,.int .i64 0],.int .i64 14]) (by simp only [qm,set3]at y0 y1 x0 x1 x2;simp [results,Tryz.results40,go_sem,y0,y1,x0,x1,x2]) rfl ?_
   rw [R.out]
   exact⟨_,_,rfl,⟨_,rfl,BsS.nil0 _ _⟩,⟨_,_,rfl,BsS.nil0 _ _,BsS.nil0 _ _⟩,ji (HB.out.trans (Below.mono HBC.out HB.out.size)) (by omega)⟩
 ·have HVS:Hid (vS k1 k2 n=false):=iH (by simpa using v1)
  have R:Hid (kC k1 k2 n d st=(14,[],0,[],[],0)):=iH (by unfold kC;rw [iT HVS.out])
  clear v1
  go_enter Tryz.func40,Tryz.ntmps40
  go_upto_region 1 with fail
  rw [<-HWS.out,<-HWC.out,<-HW2.out,<-HW3.out]
  obtain⟨f0,f1,f2⟩:=CS.out wa iB
  go_upto_region 2 with (go_at_call 47;refine(jr _ k1 k2 n _ wa HSV.out).mono ?_;rw [HVS.out];rintro e wv ⟨rfl,hb⟩;have HBV:=iH hb;obtain⟨g0,g1⟩:=CC.out wv hb;clear hb)
  clear f0 f1 f2 g0 g1
  obtain⟨r0,r1,rf⟩:=jd (R2.out wv HBV.out);have rf0:=rf 0;have rf1:=rf 1;clear rf;obtain⟨s0,s1,s2,sf⟩:=j7 (R3.out wv HBV.out);have sf0:=sf 0;have sf1:=sf 1;have sf2:=sf 2;clear sf
  go_wp2_with fail
  obtain⟨q2,q3⟩:=jm (R2.out wv HBV.out) (R3.out wv HBV.out) (.slice none 0 0) (.int .i64 0) (.slice none 0 0) (.slice none 0 0) (.int .i64 0)
  obtain⟨y0,y1,_⟩:=jd q2
  obtain⟨x0,x1,x2,_⟩:=j7 q3
  refine bodyPost_ret (v:=.tuple #[.agg #[.slice none 0 0,.int .i64 0],.agg #[.slice none 0 0,.slice none 0 0,.int .i64 0],.int .i64 14]) (by simp only [qm,set3]at y0 y1 x0 x1 x2;simp [results,Tryz.results40,go_sem,y0,y1,x0,x1,x2]) rfl ?_
  rw [R.out]
  exact⟨_,_,rfl,⟨_,rfl,BsS.nil0 _ _⟩,⟨_,_,rfl,BsS.nil0 _ _,BsS.nil0 _ _⟩,ji (HB.out.trans (Below.mono HBV.out HB.out.size)) (by omega)⟩
end Go.Proofs.YtadndhgebgjlaaaGreat
