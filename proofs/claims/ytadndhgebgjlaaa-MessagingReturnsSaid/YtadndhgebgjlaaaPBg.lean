/- Words for responses; which of them can be handled; the status; failing -/
import Derived.Test.YtadndhgebgjlaaaPBe
import Derived.Test.YtadndhgebgjlaaaPBf
set_option linter.unusedVariables false
set_option linter.unusedSimpArgs false
set_option maxRecDepth 100000
set_option maxHeartbeats 1000000
namespace Go.Proofs.Ytadndhgebgjlaaa
open Go.RowKit Go.Deep
theorem jk{w:World}{p:Nat}{a b:Value}{t:TypeId}(h:w.heap[p]?=some (.cells #[a,b] t (0,0))):
 w.cell? ⟨p,0,none⟩=some a/\w.cell? ⟨p,1,none⟩=some b/\∀o,w.frozen? ⟨p,o,none⟩=false:=by
 have key:∀o v,#[a,b][o]?=some v->w.cell? ⟨p,o,none⟩=some v:=fun o v e=>by rw [cell_of_row _ _ _ _ _ _ h];exact e
 exact⟨key 0 _ rfl,key 1 _ rfl,fun o=>by simp [World.frozen?,h]⟩
def xd(w:World)(g:Nat)(a b:Value):World:=(w.setCell ⟨g,0,none⟩ a).setCell ⟨g,1,none⟩ b
theorem Un{w:World}{g:Nat}{x y:Value}{t:TypeId}(a b:Value)(h:w.heap[g]?=some (.cells #[x,y] t (0,0))):(xd w g a b).heap[g]?=some (.cells #[a,b] t (0,0)):=jb (o:=1) (jb (o:=0) h)
theorem qc{w:World}{g j:Nat}{a b:Value}(h:j≠g):(xd w g a b).heap[j]?=w.heap[j]? :=by
 unfold xd
 rw [iO (by exact h),iO (by exact h)]
theorem Xt{w w':World}{B g:Nat}{a b:Value}(h:Below B w w')(hg:B<=g):Below B w (xd w' g a b):=(h.setCell hg _).setCell hg _
theorem ZQ(w:World)(g:Nat)(a b:Value):(xd w g a b).heap.size=w.heap.size:=by simp [xd]
theorem j20{f:Int}{A:Option Addr}{n k:Nat}:noB #[.slice A n k,.int .i64 f]:=by
 intro i x
 rcases i with _|_|i
 ·simp
 ·simp
 ·simp
theorem ju{W:World}{p:Nat}{t t':TypeId}{x0 x1 y0 y1 y2:Value}(h2:W.heap[p]?=some (.cells #[x0,x1] t (0,0)))(h3:W.heap[p+1]?=some (.cells #[y0,y1,y2] t' (0,0)))(a b x y z:Value):
 (set3 (xd W p a b) (p+1) x y z).heap[p]?=some (.cells #[a,b] t (0,0))/\(set3 (xd W p a b) (p+1) x y z).heap[p+1]?=some (.cells #[x,y,z] t' (0,0)):=
 ⟨(jr (by omega)).trans (Un _ _ h2),kG _ _ _ ((qc (by omega)).trans h3)⟩
theorem Km{W:World}{p:Nat}{t t':TypeId}{f0 k0:Int}{A B C:Option Addr}{n m q i j l:Nat}(h2:W.heap[p]?=some (.cells #[.slice A n i,.int .i64 f0] t (0,0)))(h3:W.heap[p+1]?=some (.cells #[.slice B m j,.slice C q l,.int .i64 k0] t' (0,0)))(a b x y z:Value)
 {v:Value} {L:List UInt8} (hv:Bs W W.heap.size v L):Bs (set3 (xd W p a b) (p+1) x y z) (set3 (xd W p a b) (p+1) x y z).heap.size v L:=
 BsS.keep ((hv.off h2 j20).off h3 (j01 B C m q j l k0)) fun g hs _=>⟨(jr hs.2).trans (qc hs.1.2),by rw [qU,ZQ];exact hs.1.1⟩
theorem jo{W w:World}{B p:Nat}{a b x y z:Value}(h:Below B w W)(hp:B<=p):Below B w (set3 (xd W p a b) (p+1) x y z):=qd (Xt h hp) (by omega)
def J2(wd:World)(p s:Nat)(a b:Value)(L:Nat->Bool)(_:Nat->Value)(w1:World):Prop:=w1=if L s=true then xd wd p a b else wd
section
variable {wd w1:World} {p s:Nat} {a b:Value} {L:Nat->Bool} {v v':Nat->Value}
theorem J2.step(h:J2 wd p s a b L v w1)(i:Nat)(hi:s≠i):J2 wd p s a b (jl L i) v' w1:=by
 have hq:jl L i s=L s:=by unfold jl;exact iF hi
 show w1=if jl L i s=true then _ else _
 rw [hq]
 exact h
theorem J2.store(h:J2 wd p s a b L v w1)(hL:L s=false):J2 wd p s a b (jl L s) v' (xd w1 p a b):=by
 have hq:jl L s s=true:=by unfold jl;exact iT rfl
 have h2:w1=if L s=true then xd wd p a b else wd:=h
 rw [hL]at h2
 have h3:w1=wd:=h2
 show xd w1 p a b=if jl L s s=true then _ else _
 rw [hq,h3]
 exact(iT rfl).symm
theorem J2.row(h:J2 wd p s a b L v w1){j:Nat}(hj:j≠p):w1.heap[j]?=wd.heap[j]? :=by
 unfold J2 at h
 split at h
 ·rw [h];exact qc hj
 ·rw [h]
theorem J2.old(h:J2 wd p s a b L v w1)(hL:L s=false):w1=wd:=by
 unfold J2 at h
 rw [hL]at h
 exact h
theorem J2.all(h:J2 wd p s a b L v w1)(hL:L s=true):w1=xd wd p a b:=by
 unfold J2 at h
 rw [hL]at h
 exact h
end
def vR(d:List UInt8)(st:Int):Bool:=decide (d.length<=4096/\0<=st/\st<=65535)
def UE(r:Int×List UInt8×Int×List UInt8×List UInt8×Int)(w:World)(e:Ending)(w':World):Prop:=
 ∃v s,e=.returned (.tuple #[v,s,.int .i64 r.1])/\Yw w' (·<w'.heap.size) v r.2.1 r.2.2.1/\xk w' (·<w'.heap.size) s r.2.2.2.1 r.2.2.2.2.1 r.2.2.2.2.2/\Below w.heap.size w w'
theorem Xl{w w':World}{base:Nat}{v:Value}{l:List UInt8}(h:OwnB w base v l)(hb:Below w.heap.size w w'):OwnB w' base v l:=by
 refine⟨h.1,?_⟩
 rcases h.2 with h0|⟨g,cap,cur,hv,hb',hh,r⟩
 ·exact .inl h0
 ·exact .inr ⟨g,cap,cur,hv,hb',(hb.block g (iG hh)).trans hh,r⟩
theorem ZC{w:World}{base base':Nat}{v:Value}{l:List UInt8}(h:OwnB w base' v l)(hb:base<=base'):OwnB w base v l:=by
 refine⟨h.1,?_⟩
 rcases h.2 with h0|⟨g,cap,cur,hv,hb',r⟩
 ·exact .inl h0
 ·exact .inr ⟨g,cap,cur,hv,Nat.le_trans hb hb',r⟩
def zZ(d:List UInt8)(st:Int):Int:=if 4096<d.length then 2 else if st<0\/65535<st then 3 else 0
theorem KD(k:Int)(w:World)(h0:0<=k)(h1:k<65536):Calls Try.prog 71 #[.int .i64 k,.int .i64 2] w fun e w'=>∃v',e=.returned v'/\OwnB w' w.heap.size v' (kV k)/\Below w.heap.size w w':=by
 have HC:=iH (Jl k w h0 h1)
 have em:k.tmod 65536=k:=Int.tmod_eq_of_lt h0 h1
 obtain⟨X2,hX2⟩:∃X,kV k=X:=⟨_,rfl⟩
 rw [hX2]at HC |-
 clear hX2
 go_enter Try.func71,Try.ntmps71
 go_wp2_with(go_at_call 29;refine HC.out.mono ?_;rintro e w1 ⟨v1,rfl,ho,hb⟩;have HO:=iH ho;have HB:=iH hb;clear ho hb)
 go_ret
 exact⟨_,rfl,HO.out,HB.out⟩
theorem Zk(v:Value)(d:List UInt8)(st:Int)(w:World)(h:Yw w (·<w.heap.size) v d st):Calls Try.prog 55 #[v] w fun e w'=>∃v',e=.returned (.tuple #[v',.int .i64 (zZ d st)])/\Below w.heap.size w w':=by
 obtain⟨u,rfl,hd⟩:=h
 obtain⟨A,m,dc,rfl⟩:=hd.form
 obtain rfl:=Bs.lenEq hd
 obtain⟨w0,hw0⟩:∃w0,w0=w.alloc (.cells #[.slice A d.length dc,.int .i64 st] 45):=⟨_,rfl⟩
 have hB0:Below w.heap.size w w0:=by rw [hw0];exact iA
 have hh0:w0.heap[w.heap.size]?=some (.cells #[.slice A d.length dc,.int .i64 st] 45 (0,0)):=by rw [hw0];exact iN
 have hlt0:=(iG hh0)
 have CS:Hid (∀W,Below w0.heap.size w0 W->W.cell? ⟨w.heap.size,0,none⟩=some (.slice A d.length dc)/\W.cell? ⟨w.heap.size,1,none⟩=some (.int .i64 st)):=iH fun W h=>(by obtain⟨a,b,_⟩:=jk ((h.block w.heap.size hlt0).trans hh0);exact⟨a,b⟩)
 have HB:=iH hB0;have HW0:=iH hw0;have HD:=iH (Bs.lift hd hB0)
 clear hd hB0 hw0 hh0 hlt0
 by_cases h1:4096<d.length
 ·have R:Hid (zZ d st=2):=iH (iT h1)
  have t1:decide ((d.length:Int)>4096)=true:=decide_eq_true (by omega)
  clear h1
  go_enter Try.func55,Try.ntmps55
  go_upto_region 1 with fail
  rw [<-HW0.out]
  obtain⟨c0,c1⟩:=CS.out w0 iB
  go_wp2_with fail
  go_ret2
  rw [R.out]
  exact⟨_,rfl,HB.out⟩
 ·have t1:decide ((d.length:Int)>4096)=false:=decide_eq_false (by omega)
  by_cases h2:st<0
  ·have R:Hid (zZ d st=3):=iH (by unfold zZ;rw [iF h1,iT (.inl h2)])
   have t2:decide (st<0)=true:=decide_eq_true h2
   clear h1 h2
   go_enter Try.func55,Try.ntmps55
   go_upto_region 1 with fail
   rw [<-HW0.out]
   obtain⟨c0,c1⟩:=CS.out w0 iB
   go_wp2_with fail
   go_ret2
   rw [R.out]
   exact⟨_,rfl,HB.out⟩
  ·have t2:decide (st<0)=false:=decide_eq_false h2
   by_cases h3:st>65535
   ·have R:Hid (zZ d st=3):=iH (by unfold zZ;rw [iF h1,iT (.inr h3)])
    have t3:decide (st>65535)=true:=decide_eq_true h3
    clear h1 h2 h3
    go_enter Try.func55,Try.ntmps55
    go_upto_region 1 with fail
    rw [<-HW0.out]
    obtain⟨c0,c1⟩:=CS.out w0 iB
    go_wp2_with fail
    go_ret2
    rw [R.out]
    exact⟨_,rfl,HB.out⟩
   ·have R:Hid (zZ d st=0):=iH (by unfold zZ;rw [iF h1,iF (by omega)])
    have t3:decide (st>65535)=false:=decide_eq_false h3
    have LD:Hid (d.length<=4096):=iH (by omega)
    obtain⟨X2,hX2⟩:∃X,kV st=X:=⟨_,rfl⟩
    have LX:Hid (X2.length=2):=iH (by rw [<-hX2]<;>rfl)
    have HNM:Hid (∀w,Calls Try.prog 71 #[.int .i64 st,.int .i64 2] w fun e w'=>∃v',e=.returned v'/\OwnB w' w.heap.size v' X2/\Below w.heap.size w w'):=iH (fun w=>by rw [<-hX2];exact KD st w (by omega) (by omega))
    clear h1 h2 h3 hX2
    go_enter Try.func55,Try.ntmps55
    go_upto_region 1 with fail
    rw [<-HW0.out]
    obtain⟨c0,c1⟩:=CS.out w0 iB
    go_upto_region 5 with fail
    clear c0 c1 t1 t2 t3
    refine jc 6 [some 18,some 19,some 20,some 21,some 22,some 23] [[],[0],[0,1],[],[3],[0,1,2,3,4]]
     (fun _ _ w1=>Below w0.heap.size w0 w1) (fun w1 w2=>Below w1.heap.size w1 w2)
     [fun v _=>v 0=.pointer (some ⟨w.heap.size,0,none⟩),
      fun v _=>v 1=.slice A d.length dc,
      fun v w1=>∃a c,v 2=.slice a d.length c/\OwnB w1 w0.heap.size (.slice a d.length c) d,
      fun v _=>v 3=.pointer (some ⟨w.heap.size,1,none⟩),
      fun v _=>v 4=.int .i64 st,
      fun v w1=>∃a c,v 5=.slice a (X2).length c/\BsS w1 (New w0 w1) (.slice a (X2).length c) (X2)]
     (by kernel_rfl) (by kernel_rfl) (fun _=>iB.drew) ?st ?steps ?tail
    case st=>
     exact(.cons (fun _ _ _ _ _ _ h=>h) (.cons (fun _ _ _ _ _ _ h=>h) (.cons (fun _ _ _ _ _ hr ⟨a,c,e,h⟩=>⟨a,c,e,Xl h hr⟩) (.cons (fun _ _ _ _ _ _ h=>h) (.cons (fun _ _ _ _ _ _ h=>h) (.cons (fun _ _ _ _ _ hr ⟨a,c,e,h⟩=>⟨a,c,e,BsS.keep h fun g hg hl=>⟨hr.block g hl,hg.1,iZ hl hr.size⟩⟩) .nil))))))
    case steps=>
     simp only [iI,iK]
     refine(.cons ?_ (.cons ?_ (.cons ?_ (.cons ?_ (.cons ?_ (.cons ?_ .nil))))))
     all_goals(intro L v w1 hJ hL hA hF K hK;simp only [ja,Act.put,iM,Nat.reduceAdd,iS,iC,iD]at hK |-)
     ·go_simp
      refine hK _ _ hJ iB ?_
      first|exact rfl|exact j4 _
     ·have e0:v 0=.pointer (some ⟨w.heap.size,0,none⟩):=hF 0 (hA 0 (by simp))
      obtain⟨c0,c1⟩:=CS.out _ hJ
      simp only [e0]at hK
      go_simp
      refine hK _ _ hJ iB ?_
      first|exact rfl|exact j4 _
     ·have e1:v 1=.slice A d.length dc:=hF 1 (hA 1 (by simp))
      simp only [e1]at hK
      go_simp
      refine(jN _ d w1 (HD.out.lift hJ)).mono ?_
      rintro e w5 ⟨v5,rfl,ho,hb⟩
      obtain⟨a5,c5,hp⟩:=ho.form
      subst hp
      exact hK _ _ (hJ.trans (hb.mono hJ.size)) hb ⟨_,_,rfl,ZC ho hJ.size⟩
     ·go_simp
      refine hK _ _ hJ iB ?_
      first|exact rfl|exact j4 _
     ·have e3:v 3=.pointer (some ⟨w.heap.size,1,none⟩):=hF 3 (hA 3 (by simp))
      obtain⟨c0,c1⟩:=CS.out _ hJ
      simp only [e3]at hK
      go_simp
      refine hK _ _ hJ iB ?_
      first|exact rfl|exact j4 _
     ·have e4:v 4=.int .i64 st:=hF 4 (hA 4 (by simp))
      simp only [e4]at hK
      go_simp
      refine(HNM.out w1).mono ?_
      rintro e w5 ⟨v5,rfl,ho,hb⟩
      have hx:BsS w5 (New w0 w5) v5 (X2):=(ho.out (by have:=LX.out;omega) w1 iL).keep fun g hg _=>⟨rfl,Nat.le_trans hJ.size hg.1,hg.2⟩
      obtain⟨A5,C5,hv5⟩:=Bs.formL hx
      subst hv5
      exact hK _ _ (hJ.trans (hb.mono hJ.size)) hb ⟨_,_,rfl,hx⟩
    case tail=>
     intro v w1 hJ hF
     have e0:v 0=.pointer (some ⟨w.heap.size,0,none⟩):=hF 0 (by simp)
     have e1:v 1=.slice A d.length dc:=hF 1 (by simp)
     have e3:v 3=.pointer (some ⟨w.heap.size,1,none⟩):=hF 3 (by simp)
     have e4:v 4=.int .i64 st:=hF 4 (by simp)
     obtain⟨a5,c5,e5,h5⟩:∃a c,v 5=.slice a (X2).length c/\BsS w1 (New w0 w1) (.slice a (X2).length c) (X2):=hF 5 (by simp)
     obtain⟨a2,c2,e2,h2⟩:∃a c,v 2=.slice a d.length c/\OwnB w1 w0.heap.size (.slice a d.length c) d:=hF 2 (by simp)
     simp only [iE,iJ,ja,Act.put,iM,Nat.reduceAdd,iS,iC,iD]
     simp only [e2,e5]
     clear e0 e1 e2 e3 e4 e5
     have HS:=iH h5;have HO:=iH h2;have HJ:=iH hJ
     clear h5 h2 hJ hF
     go_wp2_with(at_builtin;(with_reducible refine jp rfl (.tmp 20) (.tmp 23) rfl w0.heap.size (.slice a2 d.length c2) d rfl HO.out a5 X2.length c5 X2 (New w0 w1) rfl HS.out (by have:=LX.out;have:=LD.out;omega) HJ.out.size ?_);intro v3 w3 hgr;have HB3:=iH (hgr.2.1:Below w0.heap.size w1 w3);clear hgr)
     go_ret2
     rw [R.out]
     exact⟨_,rfl,HB.out.trans ((HJ.out.trans HB3.out).mono HB.out.size)⟩
theorem kZ(v:Value)(d:List UInt8)(st:Int)(w:World)(h:Yw w (·<w.heap.size) v d st):Calls Try.prog 41 #[v] w fun e w'=>e=.returned (.bool (vR d st))/\Below w.heap.size w w':=by
 obtain⟨u,rfl,hd⟩:=h
 obtain⟨A,m,dc,rfl⟩:=hd.form
 obtain rfl:=Bs.lenEq hd
 obtain⟨w0,hw0⟩:∃w0,w0=w.alloc (.cells #[.slice A d.length dc,.int .i64 st] 45):=⟨_,rfl⟩
 have hB0:Below w.heap.size w w0:=by rw [hw0];exact iA
 have hh0:w0.heap[w.heap.size]?=some (.cells #[.slice A d.length dc,.int .i64 st] 45 (0,0)):=by rw [hw0];exact iN
 have hlt0:=(iG hh0)
 obtain⟨c0,c1,_⟩:=jk hh0
 have HE:=iH (Zk (.agg #[.slice A d.length dc,.int .i64 st]) d st w0 ⟨_,rfl,Bs.lift hd hB0⟩)
 have hq:(zZ d st==0)=vR d st:=by
  unfold zZ vR
  rw [Bool.eq_iff_iff,beq_iff_eq,decide_eq_true_eq]
  split
  ·omega
  ·split<;>omega
 have HB:=iH hB0;have HW0:=iH hw0
 clear hd hB0 hw0 hh0 hlt0
 obtain⟨E,hE⟩:∃E,zZ d st=E:=⟨_,rfl⟩
 obtain⟨o,ho⟩:∃o,vR d st=o:=⟨_,rfl⟩
 rw [hE]at HE hq
 rw [ho]at hq |-
 clear hE ho
 go_enter Try.func41,Try.ntmps41
 go_upto_region 1 with fail
 rw [<-HW0.out]
 go_wp2_with(go_at_call 55;refine HE.out.mono ?_;rintro e w1 ⟨v1,rfl,hb⟩;have HB1:=iH hb;clear hb c0 c1)
 go_ret
 exact⟨rfl,HB.out.trans (HB1.out.mono HB.out.size)⟩
theorem yd(st:Int)(h0:0<=st)(h1:st<=65535)(w:World):Calls Try.prog 42 #[.int .i64 st] w fun e w'=>∃A c,e=.returned (.agg #[.int .i64 153,.slice A (kV st).length c,.slice none 0 0])/\BsS w' (New w w') (.slice A (kV st).length c) (kV st)/\Below w.heap.size w w':=by
 obtain⟨w0,hw0⟩:∃w0,w0=w.alloc (.cells #[.int .i64 0,.slice none 0 0,.slice none 0 0] 63):=⟨_,rfl⟩
 have hB0:Below w.heap.size w w0:=by rw [hw0];exact iA
 have hh0:w0.heap[w.heap.size]?=some (.cells #[.int .i64 0,.slice none 0 0,.slice none 0 0] 63 (0,0)):=by rw [hw0];exact iN
 have hz:w0.heap.size=w.heap.size+1:=by rw [hw0];simp
 have HC:=iH (Jl st w0 h0 (by omega))
 obtain⟨X2,hX2⟩:∃X,kV st=X:=⟨_,rfl⟩
 rw [hX2]at HC |-
 have LX:Hid (X2.length=2):=iH (by rw [<-hX2]<;>rfl)
 have HB:=iH hB0;have HW0:=iH hw0;have HR:=iH hh0;have HZ:=iH hz
 clear hX2 hw0 hB0 hh0 hz h0 h1
 go_enter Try.func42,Try.ntmps42
 go_upto_region 1 with fail
 rw [<-HW0.out]
 go_wp2_with(go_at_call 29;refine HC.out.mono ?_;rintro e w1 ⟨v1,rfl,ho,hb⟩;obtain⟨A2,c2,hv1⟩:=ho.form;subst hv1;have HO:=iH ho;have HB1:=iH hb;have hr1:=(hb.block w.heap.size (by have:=HZ.out;omega)).trans HR.out;have HR1:=iH hr1;obtain⟨z0,z1,z2,zf⟩:=j9 hr1;have zf0:=zf 0;have zf1:=zf 1;have zf2:=zf 2;obtain⟨y0,y1,y2,_⟩:=j9 (kG (.int .i64 153) (.slice A2 X2.length c2) (.slice none 0 0) hr1);clear zf hr1 ho hb)
 refine bodyPost_ret (v:=.agg #[.int .i64 153,.slice A2 X2.length c2,.slice none 0 0]) (by simp only [set3]at y0 y1 y2;simp [results,Try.results42,go_sem,y0,y1,y2]) rfl ?_
 have hz:=HZ.out
 have ho:=HO.out.out (by have:=LX.out;omega) w0 iL
 exact⟨A2,c2,rfl,ho.keep fun g hg hl=>⟨jr (by have:=hg.1;omega),by have:=hg.1;omega,by simpa [set3]using hg.2⟩,qd (HB.out.trans (HB1.out.mono HB.out.size)) iL⟩
theorem km(err:Int)(w:World):Calls Try.prog 43 #[.int .i64 err] w fun e w'=>e=.returned (.tuple #[.agg #[.slice none 0 0,.int .i64 0],.agg #[.slice none 0 0,.slice none 0 0,.int .i64 0],.int .i64 err])/\Below w.heap.size w w':=by
 obtain⟨w1,hw1⟩:∃w1,w1=w.alloc (.cells #[.slice none 0 0,.int .i64 0] 45):=⟨_,rfl⟩
 obtain⟨wa,hwa⟩:∃wa,wa=w1.alloc (.cells #[.slice none 0 0,.slice none 0 0,.int .i64 0] 29):=⟨_,rfl⟩
 have hz1:w1.heap.size=w.heap.size+1:=by rw [hw1];simp
 have b1:Below w.heap.size w w1:=by rw [hw1];exact iA
 have b2:Below w1.heap.size w1 wa:=by rw [hwa];exact iA
 have h2:wa.heap[w.heap.size]?=some (.cells #[.slice none 0 0,.int .i64 0] 45 (0,0)):=by rw [b2.block _ (by omega),hw1];exact iN
 have h3:wa.heap[w.heap.size+1]?=some (.cells #[.slice none 0 0,.slice none 0 0,.int .i64 0] 29 (0,0)):=by rw [hwa,<-hz1];exact iN
 have HB:=iH (b1.trans (b2.mono b1.size));have H2:=iH h2;have H3:=iH h3;have HW1:=iH hw1;have HWA:=iH hwa
 obtain⟨r0,r1,rf⟩:=jk h2
 have rf0:=rf 0;have rf1:=rf 1
 obtain⟨s0,s1,s2,sf⟩:=j9 h3
 have sf0:=sf 0;have sf1:=sf 1;have sf2:=sf 2
 clear rf sf h2 h3 b1 b2 hw1 hwa hz1
 go_enter Try.func43,Try.ntmps43
 go_upto_region 1 with fail
 rw [<-HW1.out,<-HWA.out]
 go_wp2_with fail
 obtain⟨q2,q3⟩:=ju H2.out H3.out (.slice none 0 0) (.int .i64 0) (.slice none 0 0) (.slice none 0 0) (.int .i64 0)
 obtain⟨y0,y1,_⟩:=jk q2
 obtain⟨x0,x1,x2,_⟩:=j9 q3
 refine bodyPost_ret (v:=.tuple #[.agg #[.slice none 0 0,.int .i64 0],.agg #[.slice none 0 0,.slice none 0 0,.int .i64 0],.int .i64 err]) (by simp only [xd,set3]at y0 y1 x0 x1 x2;simp [results,Try.results43,go_sem,y0,y1,x0,x1,x2]) rfl ?_
 exact⟨rfl,jo HB.out iL⟩
end Go.Proofs.Ytadndhgebgjlaaa
