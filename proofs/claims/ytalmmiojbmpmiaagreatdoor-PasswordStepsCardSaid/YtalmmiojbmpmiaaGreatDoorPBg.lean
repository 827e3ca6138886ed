/- Rows of objects of the call's own: what they read as, and append of one object; Layer 2: the walk of object, over contracts of objects and kids; Layer 2: the... -/
import Derived.Test.YtalmmiojbmpmiaaGreatDoorPBf
set_option linter.all false
set_option maxRecDepth 100000
set_option maxHeartbeats 8000000
namespace Go.Proofs.YtalmmiojbmpmiaaGreatDoor
open Go.RowKit Go.Deep
theorem j2k:(Tryz.prog.info? 66).map (fun i=>(i.zero,i.size,i.bytes))=some (some (.agg #[.int .i64 0,.slice none 0 0,.slice none 0 0]),3,56):=by kernel_rfl
theorem Ns.app_nil(l:Ns):l.app .nil=l:=by
 induction l with
 |nil=>rfl
 |cons t v k r _ ih=>simp [Ns.app,ih]
theorem Ns.app_assoc(a b c:Ns):(a.app b).app c=a.app (b.app c):=by
 induction a with
 |nil=>rfl
 |cons t v k r _ ih=>simp [Ns.app,ih]
theorem Ns.len_snoc(l:Ns)(t:Int)(v:List UInt8)(k:Ns):(l.app (.cons t v k .nil)).len=l.len+1:=by rw [Ns.len_app]<;>rfl
def EachN(w:World)(S:Nat->Prop):Ns->List Value->Prop
 |.nil,xs=>xs= []
 |.cons t v k r,xs=>∃x y xs',xs=.int .i64 t :: x :: y :: xs'/\zI t/\BsS w S x v/\NsS w S y k/\EachN w S r xs'
theorem EachN.keep{w w':World}{S S':Nat->Prop}(hk:∀b,S b->b<w.heap.size->w'.heap[b]?=w.heap[b]?/\S' b):∀(L:Ns) (xs:List Value),EachN w S L xs->EachN w' S' L xs:=by
 intro L
 induction L with
 |nil=>intro xs h;exact h
 |cons t v k r _ ih=>
  intro xs ⟨x,y,xs',e,hi,hv,hn,hr⟩
  exact⟨x,y,xs',e,hi,hv.keep hk,hn.keep hk,ih xs' hr⟩
section
variable{w:World}{S:Nat->Prop}
include w S
theorem EachN.snoc:∀(L:Ns) (xs:List Value),EachN w S L xs->∀ {t:Int} {v:List UInt8} {k:Ns} {x y:Value},zI t->BsS w S x v->NsS w S y k->EachN w S (L.app (.cons t v k .nil)) (xs++ [.int .i64 t,x,y]):=by
 intro L
 induction L with
 |nil=>intro xs h t v k x y hi hv hn;have h:xs= []:=h;subst h;exact⟨x,y,[],rfl,hi,hv,hn,rfl⟩
 |cons t' v' k' r _ ih=>
  intro xs ⟨x',y',xs',e,hi',hv',hn',hr⟩ t v k x y hi hv hn
  subst e
  exact⟨x',y',_,rfl,hi',hv',hn',ih xs' hr hi hv hn⟩
theorem NsS.form3{v:Value}{l:Ns}(h:NsS w S v l):∃A c,v=.slice A l.len c:=by
 obtain⟨a,c,hv,_⟩:=h;exact⟨a,c,hv⟩
theorem NsAt.of_each{g:Nat}:∀(L:Ns) (xs:List Value) (off:Nat),EachN w S L xs->(∀j x,xs[j]?=some x->w.cell? ⟨g,off+j,none⟩=some x)->NsAt w S L g off:=by
 intro L
 induction L with
 |nil=>intros;trivial
 |cons t v k r _ ih=>
  intro xs off ⟨x,y,xs',e,hi,hv,hn,hr⟩ hc
  subst e
  obtain⟨a,c,rfl,h1,h2,h3,h4⟩:=hn
  refine⟨hc 0 _ rfl,hi,⟨x,hc 1 _ rfl,hv⟩,⟨a,c,hc 2 _ rfl,h1,h2,h3,h4⟩,ih xs' (off+3) hr fun j x hj=> ?_⟩
  have:=hc (3+j) x (by rw [Nat.add_comm];simpa using hj)
  rwa [<-Nat.add_assoc]at this
end
def j3x(base:Nat)(w:World)(v:Value)(b:Nat):Prop:=b<w.heap.size/\v.ownBlock≠some b/\base<=b
def OwnN(w:World)(base:Nat)(o:Value)(L:Ns):Prop:=∃xs,w.ownsRow base 66 3 o L.len xs/\EachN w (j3x base w o) L xs
theorem OwnN.nil(w:World)(base:Nat):OwnN w base (.slice none 0 0) .nil:=⟨[],World.ownsRow_nil _ _ _ _,rfl⟩
theorem OwnN.form{w:World}{base:Nat}{o:Value}{L:Ns}(h:OwnN w base o L):∃A c,o=.slice A L.len c:=by
 obtain⟨xs,h,_⟩:=h
 rcases h.2 with ⟨rfl,h0⟩|⟨g,cap,cur,hv,_⟩
 ·cases L with
  |nil=>exact⟨_,_,rfl⟩
  |cons t v k r=>
   simp [Ns.len]at h0
 ·exact⟨_,_,hv⟩
theorem OwnN.kept{w w':World}{base:Nat}{o:Value}{L:Ns}{row:Option Nat}(h:OwnN w base o L)(hg:w.grownBy w' row)(hr:∀p,row=some p->p<base):OwnN w' base o L:=by
 obtain⟨xs,h1,h2⟩:=h
 refine⟨xs,⟨h1.1,?_⟩,h2.keep (fun b hs hl=>⟨hg.block b hl (fun e=>by have:=hr b e.symm;have:=hs.2.2;omega),iZ hl hg.size,hs.2⟩) L xs⟩
 rcases h1.2 with h0|⟨g,cap,cur,hv,hb,hh,r⟩
 ·exact .inl h0
 ·exact .inr ⟨g,cap,cur,hv,hb,(hg.block g (iG hh) (fun e=>by have:=hr g e.symm;omega)).trans hh,r⟩
theorem OwnN.below{w w':World}{base:Nat}{o:Value}{L:Ns}(h:OwnN w base o L)(hb:Below w.heap.size w w'):OwnN w' base o L:=
 h.kept (row:=none) ⟨hb.os,hb.tape,hb.output,hb.size,fun i hi _=>hb.block i hi⟩ (fun p e=>by cases e)
section
variable{w:World}{base:Nat}{o:Value}{L:Ns}(h:OwnN w base o L)
include w base o L h
theorem OwnN.alloc(x:Obj):OwnN (w.alloc x) base o L:=h.below (iB.alloc iL x)
theorem OwnN.nss(hl:L.len<=2513169434843):NsS w (fun b=>base<=b/\b<w.heap.size) o L:=by
 obtain⟨xs,h1,h2⟩:=h
 have h2:EachN w (fun b=>base<=b/\b<w.heap.size) L xs:=h2.keep (fun b hs hl=>⟨rfl,hs.2.2,hl⟩) L xs
 rcases h1.2 with ⟨rfl,h0⟩|⟨g,cap,cur,hv,hb,hh,hn,hm,r⟩
 ·cases L with
  |nil=>exact⟨none,0,rfl,Nat.le_refl _,by simp [maxLen],by simp [Ns.len],fun h=>by simp [Ns.len]at h⟩
  |cons t v k r=>
   simp [Ns.len]at h0
 ·have hlt:g<w.heap.size:=(iG hh)
  refine⟨_,cap,hv,hn,hm,hl,fun _=>⟨g,0,rfl,⟨hb,hlt⟩,hlt,NsAt.of_each L xs 0 h2 fun j x hx=> ?_⟩⟩
  have:=h1.cells (g:=g) (by rw [hv]<;>rfl) j x hx
  have e:(⟨g,0,none⟩:Addr).add j=⟨g,0+j,none⟩:=by unfold Addr.add;split<;>simp_all
  rwa [e]at this
end
def j66(w w':World)(base:Nat)(o o':Value)(L:Ns):Prop:=OwnN w' base o' L/\Below base w w'/\w.grownBy w' o.ownBlock
theorem ku{ops:Array Oper}{rest:List Oper}{op:Oper}{a:Act}{w:World}{Q:Exit->Act->World->Prop}(hgd:op.guard=none)(s x:Operand)(ho:op.op=.call {callee:=.builtin .append,args:=#[s,x],argTypes:=#[61,61]})(base:Nat)(o:Value)(L:Ns)(hs:a.eval s=o)(hown:OwnN w base o L)(t:Int)(v:List UInt8)(k:Ns)(xv yv:Value)(ty:TypeId)(g:Nat)(hx:a.eval x=.slice (some ⟨g,0,none⟩) 1 1)(hg:g=w.heap.size)(hi:zI t)(hv:BsS w (j3x base w o) xv v)(hk:NsS w (j3x base w o) yv k)(hb:L.len<=1000000000000)(hbase:base<=w.heap.size)(h:∀o' w',j66 w w' base o o' (L.app (.cons t v k .nil))->wpList Tryz.prog ops Q rest (a.put op.dst o') w'):wpList Tryz.prog ops Q (op :: rest) a (w.alloc (.cells #[.int .i64 t,xv,yv] ty)):=by
 subst hg
 obtain⟨xs,h1,h2⟩:=hown
 obtain⟨i,hinfo,hzz⟩:=Option.map_eq_some_iff.1 j2k
 simp only [Prod.mk.injEq]at hzz
 obtain⟨hz,hsize,hbb⟩:=hzz
 obtain⟨xa,xc,rfl⟩:∃A c,xv=.slice A v.length c:=by obtain⟨a,c,hv,_⟩:=hv;exact⟨a,c,hv⟩
 obtain⟨ya,yc,rfl⟩:=hk.form3
 refine wpList_append_own_at (w:=w.alloc (.cells #[.int .i64 t,.slice xa v.length xc,.slice ya k.len yc] ty)) hgd s x 61 ho base 66 i _ 3 56 Tryz.underlying61 hinfo hz hsize hbb rfl (by omega) o L.len xs hs (World.ownsRow.alloc h1 _) ⟨w.heap.size,0,none⟩ 1 1 [.int .i64 t,.slice xa v.length xc,.slice ya k.len yc] hx rfl
  (fun j u hu=> ?_) (by simp [Value.oneCell']) (by unfold maxLen;omega) (by omega) (by simp;omega) fun o' w' g1 g2 _ g3=>h o' w' ⟨⟨xs++ [.int .i64 t,.slice xa v.length xc,.slice ya k.len yc],by rw [Ns.len_snoc];exact g1,?_⟩,?_,?_⟩
 ·have e:(⟨w.heap.size,0,none⟩:Addr).add j=⟨w.heap.size,0+j,none⟩:=by unfold Addr.add;split<;>simp_all
  rw [e,Nat.zero_add,cell_of_row _ _ _ _ _ _ (iN)]
  simpa using hu
 ·have hkeep:∀b,j3x base w o b->b<w.heap.size->w'.heap[b]?=w.heap[b]?/\j3x base w' o' b:=fun b hs hl=>
   ⟨(g2.block b (by simp;omega) (fun e=>hs.2.1 e.symm)).trans (Below.heap_alloc w _ b hl),iZ (by simp;omega) g2.size,fun e=>g3.elim (fun h'=>hs.2.1 (h'▸e)) fun h'=>by rw [h']at e;injection e with e;simp at e;omega,hs.2.2⟩
  exact EachN.snoc L xs (h2.keep hkeep L xs) hi (hv.keep hkeep) (hk.keep hkeep)
 ·refine(iB.alloc hbase _).trans ⟨g2.os,g2.tape,g2.output,g2.size,fun b hb'=>g2.block b (by simp;omega) fun e=> ?_⟩
  have:=(h1.lt b e.symm).1
  omega
 ·exact⟨g2.os,g2.tape,g2.output,Nat.le_trans (by simp) g2.size,fun b hb' hne=>(g2.block b (by simp;omega) hne).trans (Below.heap_alloc w _ b hb')⟩
theorem ZQ(n:Nat)(_:yU 189 n true)(_:yU 161 n false):∀(B:List UInt8) (bb bo bc p a e d c:Nat) (st:Bool) (w:World),
 BsS w (·≠p) (.slice (some ⟨bb,bo,none⟩) B.length bc) B->e<=B.length->B.length<=4096->Rd w p (.slice (some ⟨bb,bo,none⟩) B.length bc) a st c->a<=e->e - a<=n+1->d<=9->c<=256->∀t k,qj (rst B a e)=.ok (t,k)->kr t=false->
 Calls Tryz.prog 176 #[.pointer (some ⟨p,0,none⟩),.int .i64 e,.int .i64 d] w (Jo (kP st n (rst B a e) d c) w p (.slice (some ⟨bb,bo,none⟩) B.length bc) a st):=by
 intro B bb bo bc p a e d c st w hB he hB4 hr ha hn hd hc
 have S0:=OSt.start hr
 have HB:=iH hB
 have T:=QW B bb bo bc p a e c st (w.alloc (.cells #[.int .i64 0,.slice none 0 0,.slice none 0 0] 66)) (S0.bytes hB) he S0.1 ha
 have HS0:=iH S0
 clear S0 hB hr
 intro t k ht htc
 rw [ht]at T
 obtain⟨tv,k1,k2⟩:=zG ht
 rw [ju he]at k2
 have hin:=K7 tv
 have HC:=iH (fun w=>zP t hin w)
 have HT:=iH T
 have HL:=fun(w1:World) (h1:BsS w1 (·≠p) (.slice (some ⟨bb,bo,none⟩) B.length bc) B) (h2:Rd w1 p (.slice (some ⟨bb,bo,none⟩) B.length bc) (a+k) st c)=>iH (QM B bb bo bc p (a+k) e c st false w1 h1 he h2 (by omega))
 rw [htc]at HC
 have hob:(kr t&& !st)=false:=by rw [htc]<;>rfl
 have HI:=iH hin;have TC:=iH htc
 clear T tv hin htc
 cases hs:jz (rst B (a+k) e) false st with
 |error er=>
  have E:Hid (kP st n (rst B a e) d c=.error er):=XK ht (by rw [hob,jH];exact hs)
  have n0:(er != 0)=true:=by simp [qh hs]
  have N0:=iH (qh hs)
  rw [hs]at HL
  clear hs ht hob
  go_enter Tryz.func176,Tryz.ntmps176
  go_wp2_with(first
   |(go_at_call 187;refine HT.out.mono ?_;intro e1 w1 h1;obtain⟨rfl,hr1,hg1⟩:=NumOut.got h1;have S1:=iH (HS0.out.step hr1 hg1);clear h1 hr1 hg1;obtain⟨z0,z1,z2⟩:=S1.out.zc;have f0:=S1.out.zf 0;have f1:=S1.out.zf 1;have f2:=S1.out.zf 2;have r0:=S1.out.1.c0;have r1:=S1.out.1.c1;have r2:=S1.out.1.c2;have r3:=S1.out.1.c3;have q1:=S1.out.1.fr 1;have q3:=S1.out.1.fr 3)
   |(go_at_call 179;refine(HC.out _).mono ?_;rintro e w' ⟨rfl,rfl⟩)
   |(go_at_call 188;refine(HL _ (S1.out.bytes HB.out) S1.out.1).out.mono ?_;intro e2 w2 h2;obtain⟨rfl,⟨a2,hr2⟩,hg2⟩:=NumOut.err h2;have S2:=iH (S1.out.step hr2 hg2);clear h2 hr2 hg2 z0 z1 z2 f0 f1 f2 r0 r1 r2 r3 q1 q3;obtain⟨z0,z1,z2⟩:=S2.out.zc;have f0:=S2.out.zf 0;have f1:=S2.out.zf 1;have f2:=S2.out.zf 2))
  obtain⟨y0,y1,y2⟩:=S2.out.finc 0 (.slice none 0 0) (.slice none 0 0)
  exact bodyPost_ret (v:=.tuple #[.agg #[.int .i64 0,.slice none 0 0,.slice none 0 0],.int .i64 er]) (by simp [results,Tryz.results176,go_sem,y0,y1,y2]) rfl (S2.out.no 0 E.out N0.out)
 |ok y=>
  obtain⟨m,j⟩:=y
  obtain⟨j1,j2,m1,m2⟩:=xl hs
  rw [ju he]at j2
  rw [hs]at HL
  have hs':jz ((rst B a e).drop k) (kr t&& !st) st=.ok (m,j):=by rw [hob,jH];exact hs
  have HT2:=iH ht;have HS2:=iH hs'
  clear hs ht hob hs'
  by_cases h8:8<d
  ·have E:Hid (kP st n (rst B a e) d c=.error 7):=XL HT2.out HS2.out h8
   go_enter Tryz.func176,Tryz.ntmps176
   go_wp2_with(first
    |(go_at_call 187;refine HT.out.mono ?_;intro e1 w1 h1;obtain⟨rfl,hr1,hg1⟩:=NumOut.got h1;have S1:=iH (HS0.out.step hr1 hg1);clear h1 hr1 hg1;obtain⟨z0,z1,z2⟩:=S1.out.zc;have f0:=S1.out.zf 0;have f1:=S1.out.zf 1;have f2:=S1.out.zf 2;have r0:=S1.out.1.c0;have r1:=S1.out.1.c1;have r2:=S1.out.1.c2;have r3:=S1.out.1.c3;have q1:=S1.out.1.fr 1;have q3:=S1.out.1.fr 3)
    |(go_at_call 179;refine(HC.out _).mono ?_;rintro e w' ⟨rfl,rfl⟩)
    |(go_at_call 188;refine(HL _ (S1.out.bytes HB.out) S1.out.1).out.mono ?_;intro e2 w2 h2;obtain⟨rfl,hr2,hg2⟩:=NumOut.got h2;have S2:=iH (S1.out.step hr2 hg2);clear h2 hr2 hg2 z0 z1 z2 f0 f1 f2 r0 r1 r2 r3 q1 q3;obtain⟨z0,z1,z2⟩:=S2.out.zc;have f0:=S2.out.zf 0;have f1:=S2.out.zf 1;have f2:=S2.out.zf 2;have r0:=S2.out.1.c0;have r1:=S2.out.1.c1;have r2:=S2.out.1.c2;have r3:=S2.out.1.c3;have q1:=S2.out.1.fr 1;have q3:=S2.out.1.fr 3))
   obtain⟨y0,y1,y2⟩:=S2.out.cnt.finc 0 (.slice none 0 0) (.slice none 0 0)
   exact bodyPost_ret (v:=.tuple #[.agg #[.int .i64 0,.slice none 0 0,.slice none 0 0],.int .i64 7]) (by simp [results,Tryz.results176,go_sem,y0,y1,y2]) rfl (S2.out.cnt.no 0 E.out (by decide))
  ·by_cases h9:256<c+1
   ·have E:Hid (kP st n (rst B a e) d c=.error 2):=XM HT2.out HS2.out h8 h9
    go_enter Tryz.func176,Tryz.ntmps176
    go_wp2_with(first
     |(go_at_call 187;refine HT.out.mono ?_;intro e1 w1 h1;obtain⟨rfl,hr1,hg1⟩:=NumOut.got h1;have S1:=iH (HS0.out.step hr1 hg1);clear h1 hr1 hg1;obtain⟨z0,z1,z2⟩:=S1.out.zc;have f0:=S1.out.zf 0;have f1:=S1.out.zf 1;have f2:=S1.out.zf 2;have r0:=S1.out.1.c0;have r1:=S1.out.1.c1;have r2:=S1.out.1.c2;have r3:=S1.out.1.c3;have q1:=S1.out.1.fr 1;have q3:=S1.out.1.fr 3)
     |(go_at_call 179;refine(HC.out _).mono ?_;rintro e w' ⟨rfl,rfl⟩)
     |(go_at_call 188;refine(HL _ (S1.out.bytes HB.out) S1.out.1).out.mono ?_;intro e2 w2 h2;obtain⟨rfl,hr2,hg2⟩:=NumOut.got h2;have S2:=iH (S1.out.step hr2 hg2);clear h2 hr2 hg2 z0 z1 z2 f0 f1 f2 r0 r1 r2 r3 q1 q3;obtain⟨z0,z1,z2⟩:=S2.out.zc;have f0:=S2.out.zf 0;have f1:=S2.out.zf 1;have f2:=S2.out.zf 2;have r0:=S2.out.1.c0;have r1:=S2.out.1.c1;have r2:=S2.out.1.c2;have r3:=S2.out.1.c3;have q1:=S2.out.1.fr 1;have q3:=S2.out.1.fr 3))
    obtain⟨y0,y1,y2⟩:=S2.out.cnt.finc 0 (.slice none 0 0) (.slice none 0 0)
    exact bodyPost_ret (v:=.tuple #[.agg #[.int .i64 0,.slice none 0 0,.slice none 0 0],.int .i64 2]) (by simp [results,Tryz.results176,go_sem,y0,y1,y2]) rfl (S2.out.cnt.no 0 E.out (by decide))
   ·by_cases h10:(e:Int) - ((a+k+j:Nat):Int)<m
    ·have E:Hid (kP st n (rst B a e) d c=.error 6):=XN HT2.out HS2.out h8 h9 (by rw [jH,ju he];omega)
     go_enter Tryz.func176,Tryz.ntmps176
     go_wp2_with(first
      |(go_at_call 187;refine HT.out.mono ?_;intro e1 w1 h1;obtain⟨rfl,hr1,hg1⟩:=NumOut.got h1;have S1:=iH (HS0.out.step hr1 hg1);clear h1 hr1 hg1;obtain⟨z0,z1,z2⟩:=S1.out.zc;have f0:=S1.out.zf 0;have f1:=S1.out.zf 1;have f2:=S1.out.zf 2;have r0:=S1.out.1.c0;have r1:=S1.out.1.c1;have r2:=S1.out.1.c2;have r3:=S1.out.1.c3;have q1:=S1.out.1.fr 1;have q3:=S1.out.1.fr 3)
      |(go_at_call 179;refine(HC.out _).mono ?_;rintro e w' ⟨rfl,rfl⟩)
      |(go_at_call 188;refine(HL _ (S1.out.bytes HB.out) S1.out.1).out.mono ?_;intro e2 w2 h2;obtain⟨rfl,hr2,hg2⟩:=NumOut.got h2;have S2:=iH (S1.out.step hr2 hg2);clear h2 hr2 hg2 z0 z1 z2 f0 f1 f2 r0 r1 r2 r3 q1 q3;obtain⟨z0,z1,z2⟩:=S2.out.zc;have f0:=S2.out.zf 0;have f1:=S2.out.zf 1;have f2:=S2.out.zf 2;have r0:=S2.out.1.c0;have r1:=S2.out.1.c1;have r2:=S2.out.1.c2;have r3:=S2.out.1.c3;have q1:=S2.out.1.fr 1;have q3:=S2.out.1.fr 3))
     obtain⟨y0,y1,y2⟩:=S2.out.cnt.finc 0 (.slice none 0 0) (.slice none 0 0)
     exact bodyPost_ret (v:=.tuple #[.agg #[.int .i64 0,.slice none 0 0,.slice none 0 0],.int .i64 6]) (by simp [results,Tryz.results176,go_sem,y0,y1,y2]) rfl (S2.out.cnt.no 0 E.out (by decide))
    ·have h3':¬(((rst B a e).drop (k+j)).length:Int)<m:=by rw [jH,ju he];omega
     have H3:=iH h3';clear h3'
     have h11:m<=(e:Int) - (a+k+j):=by omega
     clear h10
     have m0:0<=m:=m2.elim id fun h=>by cases h.2
     have em:(m== -1)=false:=by simp;omega
     obtain⟨u,rfl⟩:=Int.eq_ofNat_of_zero_le m0
     clear m0 m2
     have hbc:=HB.out.capOf
     obtain⟨g,hg⟩:∃g,g=a+k+j:=⟨_,rfl⟩
     have hgu:g+u<=B.length:=by omega
     have b1:(0:Int)<=g:=by omega
     have b2:(g:Int)<=(g:Int)+u:=by omega
     have b3:(g:Int)+u<=bc:=by omega
     have HG:=iH hg;clear hg
     go_enter Tryz.func176,Tryz.ntmps176
     go_wp2_with(first
      |(go_at_call 187;refine HT.out.mono ?_;intro e1 w1 h1;obtain⟨rfl,hr1,hg1⟩:=NumOut.got h1;have S1:=iH (HS0.out.step hr1 hg1);clear h1 hr1 hg1;obtain⟨z0,z1,z2⟩:=S1.out.zc;have f0:=S1.out.zf 0;have f1:=S1.out.zf 1;have f2:=S1.out.zf 2;have r0:=S1.out.1.c0;have r1:=S1.out.1.c1;have r2:=S1.out.1.c2;have r3:=S1.out.1.c3;have q1:=S1.out.1.fr 1;have q3:=S1.out.1.fr 3)
      |(go_at_call 179;refine(HC.out _).mono ?_;rintro e w' ⟨rfl,rfl⟩)
      |(go_at_call 188;refine(HL _ (S1.out.bytes HB.out) S1.out.1).out.mono ?_;intro e2 w2 h2;obtain⟨rfl,hr2,hg2⟩:=NumOut.got h2;have S2:=iH (S1.out.step hr2 hg2);clear h2 hr2 hg2 z0 z1 z2 f0 f1 f2 r0 r1 r2 r3 q1 q3;obtain⟨z0,z1,z2⟩:=S2.out.zc;have f0:=S2.out.zf 0;have f1:=S2.out.zf 1;have f2:=S2.out.zf 2;have r0:=S2.out.1.c0;have r1:=S2.out.1.c1;have r2:=S2.out.1.c2;have r3:=S2.out.1.c3;have q1:=S2.out.1.fr 1;have q3:=S2.out.1.fr 3))
     have S3:=iH (S2.out.cnt.alloc (.cells #[.int .i64 t,.slice none 0 0,.slice none 0 0] 66))
     have X3:=iH (heap_alloc_new (w2.setCell ⟨p,3,none⟩ (.int .i64 ((c:Int)+1))) (.cells #[.int .i64 t,.slice none 0 0,.slice none 0 0] 66))
     obtain⟨w3,hw3⟩:∃w3,w3=(w2.setCell ⟨p,3,none⟩ (.int .i64 ((c:Int)+1))).alloc (.cells #[.int .i64 t,.slice none 0 0,.slice none 0 0] 66):=⟨_,rfl⟩
     have hX:(w2.setCell ⟨p,3,none⟩ (.int .i64 ((c:Int)+1))).heap.size=w2.heap.size:=by simp [World.setCell]
     rw [hX]at X3
     rw [<-hw3]at S3 X3 |-
     rw [<-HG.out]at S3
     have hlt2:=S2.out.lt
     clear hw3 hX z0 z1 z2 f0 f1 f2 r0 r1 r2 r3 q1 q3
     obtain⟨x0,x1,x2,xf⟩:=kt X3.out
     have xf1:=xf 1
     clear xf
     obtain⟨z0,z1,z2⟩:=S3.out.zc;have f0:=S3.out.zf 0;have f1:=S3.out.zf 1;have f2:=S3.out.zf 2;have r0:=S3.out.1.c0;have r1:=S3.out.1.c1;have r2:=S3.out.1.c2;have r3:=S3.out.1.c3;have q1:=S3.out.1.fr 1;have q3:=S3.out.1.fr 3
     refine wp_region_still_tail 15 (by kernel_rfl) (by kernel_rfl) ?_
     simp only [List.take_succ_cons,List.take_zero,List.drop_succ_cons,List.drop_zero]
     repeat(refine wpStill_step (fun K hK=> ?_);go_simp;(try go_bits);refine hK _ ?_;clear hK K)
     refine wpStill_nil ?_
     have hpN:=S3.out.2.2.2
     obtain⟨A,hA⟩:∃A,(if bc=g then some (⟨bb,bo,none⟩:Addr)else some ⟨bb,bo+g,none⟩)=A:=⟨_,rfl⟩
     have CB:=j43 (S3.out.bytes HB.out) g u hgu
     rw [hA,Nat.add_sub_cancel_left]at CB
     rw [hA,Nat.add_sub_cancel_left]
     have CB:=iH CB
     clear hA
     have D4:=iH (S3.out.draws 1)
     go_wp2_with(go_at_call 67;go_must(refine(js _ (rst B g (g+u)) w3.drew (CB.out.keep fun b _ hl=>⟨rfl,hl⟩)).mono ?_;rintro e4 w4 ⟨v4,rfl,hown4,hb4⟩;obtain⟨a4,k4,rfl⟩:=OwnB.form hown4;have S4:=iH (D4.out.below hb4);have X4:=iH ((hb4.block _ (iG X3.out)).trans X3.out);have Hown4:=iH hown4;have Hb4:=iH hb4;clear hown4 hb4 z0 z1 z2 f0 f1 f2 r0 r1 r2 r3 q1 q3 x0 x1 x2 xf1;obtain⟨x0,x1,x2,xf⟩:=kt X4.out;have xf1:=xf 1;clear xf;obtain⟨z0,z1,z2⟩:=S4.out.zc;have f0:=S4.out.zf 0;have f1:=S4.out.zf 1;have f2:=S4.out.zf 2;have r0:=S4.out.1.c0;have r1:=S4.out.1.c1;have r2:=S4.out.1.c2;have r3:=S4.out.1.c3;have q1:=S4.out.1.fr 1;have q3:=S4.out.1.fr 3))
     have S5:=S4.out.other hlt2 1 (.slice a4 (rst B g (g+u)).length k4)
     have S6:=S5.put (g+u) ((g:Int)+u) (by omega)
     obtain⟨y0,y1,y2⟩:=S6.finc t (.slice a4 (rst B g (g+u)).length k4) (.slice none 0 0)
     have E:kP st n (rst B a e) d c=.ok ⟨t,rst B g (g+u),.nil,k+j+u,c+1⟩:=by
      rw [j05 HT2.out HS2.out h8 h9 (by have:=H3.out;omega) (by omega) (by rw [TC.out];decide),jH,y8 _ _ _ _ (by have:=HG.out;simp;omega),Int.toNat_natCast,HG.out,<-Nat.add_assoc]
     have hX3:=(iG X3.out)
     exact bodyPost_ret (v:=.tuple #[.agg #[.int .i64 t,.slice a4 (rst B g (g+u)).length k4,.slice none 0 0],.int .i64 0]) (by simp [results,Tryz.results176,go_sem,y0,y1,y2]) rfl
      (S6.yes E ((BsS.of_own Hown4.out (by rw [ju hgu];omega)).keep fun b hb _=>⟨(iO (by have:w3.heap.size<=b:=hb.1;show b≠p;omega)).trans (iO (by have:w3.heap.size<=b:=hb.1;show b≠w2.heap.size;omega)),by have:w3.heap.size<=b:=hb.1;omega,by simpa [World.setCell]using hb.2⟩) (NsS.nil0 _ _) HI.out (by have:=HG.out;simp only;omega) rfl)
theorem Qx(n:Nat)(_:yU 189 n true)(ho:yU 161 n false):∀(B:List UInt8) (bb bo bc p a e d c:Nat) (w:World),
 BsS w (·≠p) (.slice (some ⟨bb,bo,none⟩) B.length bc) B->e<=B.length->B.length<=4096->Rd w p (.slice (some ⟨bb,bo,none⟩) B.length bc) a true c->a<=e->e - a<=n+1->d<=9->c<=256->∀t k,qj (rst B a e)=.ok (t,k)->kr t=true->
 Calls Tryz.prog 176 #[.pointer (some ⟨p,0,none⟩),.int .i64 e,.int .i64 d] w (Jo (kP true n (rst B a e) d c) w p (.slice (some ⟨bb,bo,none⟩) B.length bc) a true):=by
 intro B bb bo bc p a e d c w hB he hB4 hr ha hn hd hc
 have S0:=OSt.start hr
 have HB:=iH hB
 have T:=QW B bb bo bc p a e c true (w.alloc (.cells #[.int .i64 0,.slice none 0 0,.slice none 0 0] 66)) (S0.bytes hB) he S0.1 ha
 have HS0:=iH S0
 clear S0 hB hr
 intro t k ht htc
 rw [ht]at T
 obtain⟨tv,k1,k2⟩:=zG ht
 rw [ju he]at k2
 have hin:=K7 tv
 have HC:=iH (fun w=>zP t hin w)
 have HT:=iH T
 have HL:=fun(w1:World) (h1:BsS w1 (·≠p) (.slice (some ⟨bb,bo,none⟩) B.length bc) B) (h2:Rd w1 p (.slice (some ⟨bb,bo,none⟩) B.length bc) (a+k) true c)=>iH (QM B bb bo bc p (a+k) e c true false w1 h1 he h2 (by omega))
 rw [htc]at HC
 have hob:(kr t&& !true)=false:=by rw [htc]<;>rfl
 have HI:=iH hin;have TC:=iH htc
 clear T tv hin htc
 cases hs:jz (rst B (a+k) e) false true with
 |error er=>
  have E:Hid (kP true n (rst B a e) d c=.error er):=XK ht (by rw [hob,jH];exact hs)
  have n0:(er != 0)=true:=by simp [qh hs]
  have N0:=iH (qh hs)
  rw [hs]at HL
  clear hs ht hob
  go_enter Tryz.func176,Tryz.ntmps176
  go_wp2_with(first
   |(go_at_call 187;refine HT.out.mono ?_;intro e1 w1 h1;obtain⟨rfl,hr1,hg1⟩:=NumOut.got h1;have S1:=iH (HS0.out.step hr1 hg1);clear h1 hr1 hg1;obtain⟨z0,z1,z2⟩:=S1.out.zc;have f0:=S1.out.zf 0;have f1:=S1.out.zf 1;have f2:=S1.out.zf 2;have r0:=S1.out.1.c0;have r1:=S1.out.1.c1;have r2:=S1.out.1.c2;have r3:=S1.out.1.c3;have q1:=S1.out.1.fr 1;have q3:=S1.out.1.fr 3)
   |(go_at_call 179;refine(HC.out _).mono ?_;rintro e w' ⟨rfl,rfl⟩)
   |(go_at_call 188;refine(HL _ (S1.out.bytes HB.out) S1.out.1).out.mono ?_;intro e2 w2 h2;obtain⟨rfl,⟨a2,hr2⟩,hg2⟩:=NumOut.err h2;have S2:=iH (S1.out.step hr2 hg2);clear h2 hr2 hg2 z0 z1 z2 f0 f1 f2 r0 r1 r2 r3 q1 q3;obtain⟨z0,z1,z2⟩:=S2.out.zc;have f0:=S2.out.zf 0;have f1:=S2.out.zf 1;have f2:=S2.out.zf 2))
  obtain⟨y0,y1,y2⟩:=S2.out.finc 0 (.slice none 0 0) (.slice none 0 0)
  exact bodyPost_ret (v:=.tuple #[.agg #[.int .i64 0,.slice none 0 0,.slice none 0 0],.int .i64 er]) (by simp [results,Tryz.results176,go_sem,y0,y1,y2]) rfl (S2.out.no 0 E.out N0.out)
 |ok y=>
  obtain⟨m,j⟩:=y
  obtain⟨j1,j2,m1,m2⟩:=xl hs
  rw [ju he]at j2
  rw [hs]at HL
  have hs':jz ((rst B a e).drop k) (kr t&& !true) true=.ok (m,j):=by rw [hob,jH];exact hs
  have HT2:=iH ht;have HS2:=iH hs'
  clear hs ht hob hs'
  by_cases h8:8<d
  ·have E:Hid (kP true n (rst B a e) d c=.error 7):=XL HT2.out HS2.out h8
   go_enter Tryz.func176,Tryz.ntmps176
   go_wp2_with(first
    |(go_at_call 187;refine HT.out.mono ?_;intro e1 w1 h1;obtain⟨rfl,hr1,hg1⟩:=NumOut.got h1;have S1:=iH (HS0.out.step hr1 hg1);clear h1 hr1 hg1;obtain⟨z0,z1,z2⟩:=S1.out.zc;have f0:=S1.out.zf 0;have f1:=S1.out.zf 1;have f2:=S1.out.zf 2;have r0:=S1.out.1.c0;have r1:=S1.out.1.c1;have r2:=S1.out.1.c2;have r3:=S1.out.1.c3;have q1:=S1.out.1.fr 1;have q3:=S1.out.1.fr 3)
    |(go_at_call 179;refine(HC.out _).mono ?_;rintro e w' ⟨rfl,rfl⟩)
    |(go_at_call 188;refine(HL _ (S1.out.bytes HB.out) S1.out.1).out.mono ?_;intro e2 w2 h2;obtain⟨rfl,hr2,hg2⟩:=NumOut.got h2;have S2:=iH (S1.out.step hr2 hg2);clear h2 hr2 hg2 z0 z1 z2 f0 f1 f2 r0 r1 r2 r3 q1 q3;obtain⟨z0,z1,z2⟩:=S2.out.zc;have f0:=S2.out.zf 0;have f1:=S2.out.zf 1;have f2:=S2.out.zf 2;have r0:=S2.out.1.c0;have r1:=S2.out.1.c1;have r2:=S2.out.1.c2;have r3:=S2.out.1.c3;have q1:=S2.out.1.fr 1;have q3:=S2.out.1.fr 3))
   obtain⟨y0,y1,y2⟩:=S2.out.cnt.finc 0 (.slice none 0 0) (.slice none 0 0)
   exact bodyPost_ret (v:=.tuple #[.agg #[.int .i64 0,.slice none 0 0,.slice none 0 0],.int .i64 7]) (by simp [results,Tryz.results176,go_sem,y0,y1,y2]) rfl (S2.out.cnt.no 0 E.out (by decide))
  ·by_cases h9:256<c+1
   ·have E:Hid (kP true n (rst B a e) d c=.error 2):=XM HT2.out HS2.out h8 h9
    go_enter Tryz.func176,Tryz.ntmps176
    go_wp2_with(first
     |(go_at_call 187;refine HT.out.mono ?_;intro e1 w1 h1;obtain⟨rfl,hr1,hg1⟩:=NumOut.got h1;have S1:=iH (HS0.out.step hr1 hg1);clear h1 hr1 hg1;obtain⟨z0,z1,z2⟩:=S1.out.zc;have f0:=S1.out.zf 0;have f1:=S1.out.zf 1;have f2:=S1.out.zf 2;have r0:=S1.out.1.c0;have r1:=S1.out.1.c1;have r2:=S1.out.1.c2;have r3:=S1.out.1.c3;have q1:=S1.out.1.fr 1;have q3:=S1.out.1.fr 3)
     |(go_at_call 179;refine(HC.out _).mono ?_;rintro e w' ⟨rfl,rfl⟩)
     |(go_at_call 188;refine(HL _ (S1.out.bytes HB.out) S1.out.1).out.mono ?_;intro e2 w2 h2;obtain⟨rfl,hr2,hg2⟩:=NumOut.got h2;have S2:=iH (S1.out.step hr2 hg2);clear h2 hr2 hg2 z0 z1 z2 f0 f1 f2 r0 r1 r2 r3 q1 q3;obtain⟨z0,z1,z2⟩:=S2.out.zc;have f0:=S2.out.zf 0;have f1:=S2.out.zf 1;have f2:=S2.out.zf 2;have r0:=S2.out.1.c0;have r1:=S2.out.1.c1;have r2:=S2.out.1.c2;have r3:=S2.out.1.c3;have q1:=S2.out.1.fr 1;have q3:=S2.out.1.fr 3))
    obtain⟨y0,y1,y2⟩:=S2.out.cnt.finc 0 (.slice none 0 0) (.slice none 0 0)
    exact bodyPost_ret (v:=.tuple #[.agg #[.int .i64 0,.slice none 0 0,.slice none 0 0],.int .i64 2]) (by simp [results,Tryz.results176,go_sem,y0,y1,y2]) rfl (S2.out.cnt.no 0 E.out (by decide))
   ·by_cases h10:(e:Int) - ((a+k+j:Nat):Int)<m
    ·have E:Hid (kP true n (rst B a e) d c=.error 6):=XN HT2.out HS2.out h8 h9 (by rw [jH,ju he];omega)
     go_enter Tryz.func176,Tryz.ntmps176
     go_wp2_with(first
      |(go_at_call 187;refine HT.out.mono ?_;intro e1 w1 h1;obtain⟨rfl,hr1,hg1⟩:=NumOut.got h1;have S1:=iH (HS0.out.step hr1 hg1);clear h1 hr1 hg1;obtain⟨z0,z1,z2⟩:=S1.out.zc;have f0:=S1.out.zf 0;have f1:=S1.out.zf 1;have f2:=S1.out.zf 2;have r0:=S1.out.1.c0;have r1:=S1.out.1.c1;have r2:=S1.out.1.c2;have r3:=S1.out.1.c3;have q1:=S1.out.1.fr 1;have q3:=S1.out.1.fr 3)
      |(go_at_call 179;refine(HC.out _).mono ?_;rintro e w' ⟨rfl,rfl⟩)
      |(go_at_call 188;refine(HL _ (S1.out.bytes HB.out) S1.out.1).out.mono ?_;intro e2 w2 h2;obtain⟨rfl,hr2,hg2⟩:=NumOut.got h2;have S2:=iH (S1.out.step hr2 hg2);clear h2 hr2 hg2 z0 z1 z2 f0 f1 f2 r0 r1 r2 r3 q1 q3;obtain⟨z0,z1,z2⟩:=S2.out.zc;have f0:=S2.out.zf 0;have f1:=S2.out.zf 1;have f2:=S2.out.zf 2;have r0:=S2.out.1.c0;have r1:=S2.out.1.c1;have r2:=S2.out.1.c2;have r3:=S2.out.1.c3;have q1:=S2.out.1.fr 1;have q3:=S2.out.1.fr 3))
     obtain⟨y0,y1,y2⟩:=S2.out.cnt.finc 0 (.slice none 0 0) (.slice none 0 0)
     exact bodyPost_ret (v:=.tuple #[.agg #[.int .i64 0,.slice none 0 0,.slice none 0 0],.int .i64 6]) (by simp [results,Tryz.results176,go_sem,y0,y1,y2]) rfl (S2.out.cnt.no 0 E.out (by decide))
    ·have h3':¬(((rst B a e).drop (k+j)).length:Int)<m:=by rw [jH,ju he];omega
     have H3:=iH h3';clear h3'
     have h11:m<=(e:Int) - (a+k+j):=by omega
     clear h10
     have m0:0<=m:=m2.elim id fun h=>by cases h.2
     have em:(m== -1)=false:=by simp;omega
     obtain⟨u,rfl⟩:=Int.eq_ofNat_of_zero_le m0
     clear m0 m2
     obtain⟨g,hg⟩:∃g,g=a+k+j:=⟨_,rfl⟩
     have hgu:g+u<=e:=by omega
     have b1:(g:Int)+u<=9223372036854775807:=by omega
     have HG:=iH hg
     have hl0:=jS true n (rst B g (g+u)) (d+1) (c+1) false (by omega)
     have HF:=fun(w3:World) (h1:BsS w3 (·≠p) (.slice (some ⟨bb,bo,none⟩) B.length bc) B) (h2:Rd w3 p (.slice (some ⟨bb,bo,none⟩) B.length bc) g true (c+1))=>
      iH (show Calls Tryz.prog 161 #[.pointer (some ⟨p,0,none⟩),.int .i64 ((g:Int)+u),.int .i64 ((d:Int)+1)] w3 (ListOut (jf true n (rst B g (g+u)) (d+1) (c+1) false) w3 p (.slice (some ⟨bb,bo,none⟩) B.length bc) g true) from
       ho B bb bo bc p g (g+u) (d+1) (c+1) true w3 h1 (by omega) hB4 h2 (by omega) (by omega) (by omega) (by omega))
     clear hg
     cases hl:jf true n (rst B g (g+u)) (d+1) (c+1) false with
     |error er=>
      have E:Hid (kP true n (rst B a e) d c=.error er):=YH HT2.out HS2.out h8 h9 (by have:=H3.out;omega) (by omega) TC.out (by rw [jH,y8 _ _ _ _ (by have:=HG.out;simp;omega),Int.toNat_natCast,<-Nat.add_assoc,<-HG.out];exact hl)
      have ner:er≠0:=hl0.2 er hl
      have n0:(er != 0)=true:=by simp [ner]
      have N0:=iH ner
      rw [hl]at HF
      clear hl hl0 ner
      go_enter Tryz.func176,Tryz.ntmps176
      go_upto_region 21 with (first
       |(go_at_call 187;refine HT.out.mono ?_;intro e1 w1 h1;obtain⟨rfl,hr1,hg1⟩:=NumOut.got h1;have S1:=iH (HS0.out.step hr1 hg1);clear h1 hr1 hg1;obtain⟨z0,z1,z2⟩:=S1.out.zc;have f0:=S1.out.zf 0;have f1:=S1.out.zf 1;have f2:=S1.out.zf 2;have r0:=S1.out.1.c0;have r1:=S1.out.1.c1;have r2:=S1.out.1.c2;have r3:=S1.out.1.c3;have q1:=S1.out.1.fr 1;have q3:=S1.out.1.fr 3)
       |(go_at_call 179;refine(HC.out _).mono ?_;rintro e w' ⟨rfl,rfl⟩)
       |(go_at_call 188;refine(HL _ (S1.out.bytes HB.out) S1.out.1).out.mono ?_;intro e2 w2 h2;obtain⟨rfl,hr2,hg2⟩:=NumOut.got h2;have S2:=iH (S1.out.step hr2 hg2);clear h2 hr2 hg2 z0 z1 z2 f0 f1 f2 r0 r1 r2 r3 q1 q3;obtain⟨z0,z1,z2⟩:=S2.out.zc;have f0:=S2.out.zf 0;have f1:=S2.out.zf 1;have f2:=S2.out.zf 2;have r0:=S2.out.1.c0;have r1:=S2.out.1.c1;have r2:=S2.out.1.c2;have r3:=S2.out.1.c3;have q1:=S2.out.1.fr 1;have q3:=S2.out.1.fr 3))
      have S3:=iH (S2.out.cnt.alloc (.cells #[.int .i64 t,.slice none 0 0,.slice none 0 0] 66))
      have X3:=iH (heap_alloc_new (w2.setCell ⟨p,3,none⟩ (.int .i64 ((c:Int)+1))) (.cells #[.int .i64 t,.slice none 0 0,.slice none 0 0] 66))
      obtain⟨w3,hw3⟩:∃w3,w3=(w2.setCell ⟨p,3,none⟩ (.int .i64 ((c:Int)+1))).alloc (.cells #[.int .i64 t,.slice none 0 0,.slice none 0 0] 66):=⟨_,rfl⟩
      have hX:(w2.setCell ⟨p,3,none⟩ (.int .i64 ((c:Int)+1))).heap.size=w2.heap.size:=by simp [World.setCell]
      rw [hX]at X3
      rw [<-hw3]at S3 X3 |-
      rw [<-HG.out]at S3
      have hlt2:=S2.out.lt
      have hpN:=S3.out.2.2.2
      clear hw3 hX z0 z1 z2 f0 f1 f2 r0 r1 r2 r3 q1 q3
      obtain⟨x0,x1,x2,xf⟩:=kt X3.out
      have xf1:=xf 2
      clear xf
      obtain⟨z0,z1,z2⟩:=S3.out.zc;have f0:=S3.out.zf 0;have f1:=S3.out.zf 1;have f2:=S3.out.zf 2;have r0:=S3.out.1.c0;have r1:=S3.out.1.c1;have r2:=S3.out.1.c2;have r3:=S3.out.1.c3;have q1:=S3.out.1.fr 1;have q3:=S3.out.1.fr 3
      go_wp2_with(go_at_call 161;refine(HF _ (S3.out.bytes HB.out) S3.out.1).out.mono ?_;intro e4 w4 h4;obtain⟨_,rfl,⟨a4,c4,hr4⟩,hg4⟩:=h4;have S4:=iH (S3.out.step hr4 hg4);have X4:=iH ((hg4.block _ (iG X3.out) (by intro e;injection e with e;omega)).trans X3.out);clear hr4 hg4 z0 z1 z2 f0 f1 f2 r0 r1 r2 r3 q1 q3 x0 x1 x2 xf1;obtain⟨x0,x1,x2,xf⟩:=kt X4.out;have xf1:=xf 2;clear xf;obtain⟨z0,z1,z2⟩:=S4.out.zc;have f0:=S4.out.zf 0;have f1:=S4.out.zf 1;have f2:=S4.out.zf 2;have r0:=S4.out.1.c0;have r1:=S4.out.1.c1;have r2:=S4.out.1.c2;have r3:=S4.out.1.c3;have q1:=S4.out.1.fr 1;have q3:=S4.out.1.fr 3)
      have S5:=S4.out.other hlt2 2 (.slice none 0 0)
      obtain⟨y0,y1,y2⟩:=S5.finc t (.slice none 0 0) (.slice none 0 0)
      exact bodyPost_ret (v:=.tuple #[.agg #[.int .i64 t,.slice none 0 0,.slice none 0 0],.int .i64 er]) (by simp [results,Tryz.results176,go_sem,y0,y1,y2]) rfl (S5.no t E.out N0.out)
     |ok r=>
      have E:Hid (kP true n (rst B a e) d c=.ok ⟨t,[],r.list,k+j+u,r.count⟩):=UD HT2.out HS2.out h8 h9 (by have:=H3.out;omega) (by omega) TC.out (by rw [jH,y8 _ _ _ _ (by have:=HG.out;simp;omega),Int.toNat_natCast,<-Nat.add_assoc,<-HG.out];exact hl)
      have hu:=hl0.1 r hl
      have HU:=iH hu
      clear hu
      rw [hl]at HF
      clear hl hl0
      go_enter Tryz.func176,Tryz.ntmps176
      go_upto_region 21 with (first
       |(go_at_call 187;refine HT.out.mono ?_;intro e1 w1 h1;obtain⟨rfl,hr1,hg1⟩:=NumOut.got h1;have S1:=iH (HS0.out.step hr1 hg1);clear h1 hr1 hg1;obtain⟨z0,z1,z2⟩:=S1.out.zc;have f0:=S1.out.zf 0;have f1:=S1.out.zf 1;have f2:=S1.out.zf 2;have r0:=S1.out.1.c0;have r1:=S1.out.1.c1;have r2:=S1.out.1.c2;have r3:=S1.out.1.c3;have q1:=S1.out.1.fr 1;have q3:=S1.out.1.fr 3)
       |(go_at_call 179;refine(HC.out _).mono ?_;rintro e w' ⟨rfl,rfl⟩)
       |(go_at_call 188;refine(HL _ (S1.out.bytes HB.out) S1.out.1).out.mono ?_;intro e2 w2 h2;obtain⟨rfl,hr2,hg2⟩:=NumOut.got h2;have S2:=iH (S1.out.step hr2 hg2);clear h2 hr2 hg2 z0 z1 z2 f0 f1 f2 r0 r1 r2 r3 q1 q3;obtain⟨z0,z1,z2⟩:=S2.out.zc;have f0:=S2.out.zf 0;have f1:=S2.out.zf 1;have f2:=S2.out.zf 2;have r0:=S2.out.1.c0;have r1:=S2.out.1.c1;have r2:=S2.out.1.c2;have r3:=S2.out.1.c3;have q1:=S2.out.1.fr 1;have q3:=S2.out.1.fr 3))
      have S3:=iH (S2.out.cnt.alloc (.cells #[.int .i64 t,.slice none 0 0,.slice none 0 0] 66))
      have X3:=iH (heap_alloc_new (w2.setCell ⟨p,3,none⟩ (.int .i64 ((c:Int)+1))) (.cells #[.int .i64 t,.slice none 0 0,.slice none 0 0] 66))
      obtain⟨w3,hw3⟩:∃w3,w3=(w2.setCell ⟨p,3,none⟩ (.int .i64 ((c:Int)+1))).alloc (.cells #[.int .i64 t,.slice none 0 0,.slice none 0 0] 66):=⟨_,rfl⟩
      have hX:(w2.setCell ⟨p,3,none⟩ (.int .i64 ((c:Int)+1))).heap.size=w2.heap.size:=by simp [World.setCell]
      rw [hX]at X3
      rw [<-hw3]at S3 X3 |-
      rw [<-HG.out]at S3
      have hlt2:=S2.out.lt
      have hpN:=S3.out.2.2.2
      clear hw3 hX z0 z1 z2 f0 f1 f2 r0 r1 r2 r3 q1 q3
      obtain⟨x0,x1,x2,xf⟩:=kt X3.out
      have xf1:=xf 2
      clear xf
      obtain⟨z0,z1,z2⟩:=S3.out.zc;have f0:=S3.out.zf 0;have f1:=S3.out.zf 1;have f2:=S3.out.zf 2;have r0:=S3.out.1.c0;have r1:=S3.out.1.c1;have r2:=S3.out.1.c2;have r3:=S3.out.1.c3;have q1:=S3.out.1.fr 1;have q3:=S3.out.1.fr 3
      go_wp2_with(go_at_call 161;refine(HF _ (S3.out.bytes HB.out) S3.out.1).out.mono ?_;intro e4 w4 h4;obtain⟨v4,rfl,hv4,hr4,hg4⟩:=h4;obtain⟨va,vc,rfl⟩:=NsS.form2 hv4;have Hv4:=iH hv4;have S4:=iH (S3.out.step hr4 hg4);have X4:=iH ((hg4.block _ (iG X3.out) (by intro e;injection e with e;omega)).trans X3.out);clear hv4 hr4 hg4 z0 z1 z2 f0 f1 f2 r0 r1 r2 r3 q1 q3 x0 x1 x2 xf1;obtain⟨x0,x1,x2,xf⟩:=kt X4.out;have xf1:=xf 2;clear xf;obtain⟨z0,z1,z2⟩:=S4.out.zc;have f0:=S4.out.zf 0;have f1:=S4.out.zf 1;have f2:=S4.out.zf 2;have r0:=S4.out.1.c0;have r1:=S4.out.1.c1;have r2:=S4.out.1.c2;have r3:=S4.out.1.c3;have q1:=S4.out.1.fr 1;have q3:=S4.out.1.fr 3)
      have S5:=S4.out.other hlt2 2 (.slice va r.list.len vc)
      obtain⟨y0,y1,y2⟩:=S5.finc t (.slice none 0 0) (.slice va r.list.len vc)
      have hX3:=(iG X3.out)
      exact bodyPost_ret (v:=.tuple #[.agg #[.int .i64 t,.slice none 0 0,.slice va r.list.len vc],.int .i64 0]) (by simp [results,Tryz.results176,go_sem,y0,y1,y2]) rfl
       (S5.yes E.out (BsS.nil0 _ _) (Hv4.out.keep fun b hb _=>⟨iO (by have:=hb.1;show b≠w2.heap.size;omega),by have:=hb.1;omega,by simpa [World.setCell]using hb.2⟩) HI.out (by have:=HG.out;have:=HU.out.2.2 (by simp);rw [ju (by omega)]at this;simp only;omega) rfl)
theorem KF(n:Nat)(hk:yU 189 n true)(ho:yU 161 n false):j7b n:=by
 intro B bb bo bc p a e d c st w hB he hB4 hr ha hn hd hc
 cases ht:qj (rst B a e)with
 |error er=>exact UF n B bb bo bc p a e d c st w hB he hB4 hr ha hn hd hc er ht
 |ok x=>
  obtain⟨t,k⟩:=x
  cases hC:kr t with
  |false=>exact ZQ n hk ho B bb bo bc p a e d c st w hB he hB4 hr ha hn hd hc t k ht hC
  |true=>
   cases st with
   |true=>exact Qx n hk ho B bb bo bc p a e d c w hB he hB4 hr ha hn hd hc t k ht hC
   |false=>exact ZP n hk ho B bb bo bc p a e d c w hB he hB4 hr ha hn hd hc t k ht hC
def yx(L:Ns)(u:Nat):Except Int Lst->Except Int Lst
 |.error e=>.error e
 |.ok r=>.ok ⟨L.app r.list,u+r.used,r.count⟩
theorem Jg(r:Except Int Lst):yx .nil 0 r=r:=by
 cases r with
 |error e=>rfl
 |ok r=>simp [yx,Ns.app]
theorem qB(L M:Ns)(u v:Nat)(r:Except Int Lst):yx L u (yx M v r)=yx (L.app M) (u+v) r:=by
 cases r with
 |error e=>rfl
 |ok r=>simp [yx,Ns.app_assoc,Nat.add_assoc]
section
variable{st:Bool}{m:Nat}{l:List UInt8}{d c:Nat}{op:Bool}
include st m l d c op
theorem jD{er:Int}(h:kh l op=none)(ho:kP st m l d c=.error er):jf st (m+1) l d c op=.error er:=by
 rw [jf,h];simp only;rw [show yX st (jf st m) l d c=.error er from ho]
theorem jN{o:j4i}(h:kh l op=none)(ho:kP st m l d c=.ok o):jf st (m+1) l d c op=yx (.cons o.tag o.val o.kids .nil) o.used (jf st m (l.drop o.used) d o.count op):=by
 rw [jf,h];simp only;rw [show yX st (jf st m) l d c=.ok o from ho];simp only
 cases jf st m (l.drop o.used) d o.count op<;>rfl
theorem kw{u:Nat}(h:kh l op=some (.ok u)):jf st m l d c op=.ok ⟨.nil,u,c⟩:=by
 cases m<;>(rw [jf,h])
theorem xI{e:Int}(h:kh l op=some (.error e)):jf st m l d c op=.error e:=by
 cases m<;>(rw [jf,h])
end
theorem OwnN.lt{w:World}{base:Nat}{o:Value}{L:Ns}(h:OwnN w base o L){b:Nat}(e:o.ownBlock=some b):base<=b/\b<w.heap.size:=by
 obtain⟨xs,h1,_⟩:=h
 exact h1.lt b e
theorem yu{wr w1:World}{base:Nat}{o:Value}{L:Ns}(ho:OwnN wr base o L)(hb:base<=wr.heap.size)(x:Obj){b:Nat}(h:New wr w1 b)(hl:b<w1.heap.size):(w1.alloc x).heap[b]?=w1.heap[b]?/\j3x base (w1.alloc x) o b:=
 ⟨Below.heap_alloc _ _ _ hl,by simp;omega,fun e=>by have:=(ho.lt e).2;omega,by omega⟩
def LSt(w wr:World)(p:Nat)(bv:Value)(st:Bool)(o:Value)(L:Ns)(g c:Nat):Prop:=OwnN wr w.heap.size o L/\Rd wr p bv g st c/\w.grownBy wr (some p)
section
variable{w wr:World}{p:Nat}{bv:Value}{st:Bool}{o:Value}{L:Ns}{g c:Nat}(h:LSt w wr p bv st o L g c)
include w wr p bv st o L g c h
theorem LSt.own:OwnN wr w.heap.size o L:=h.1
theorem LSt.rd:Rd wr p bv g st c:=h.2.1
theorem LSt.lt:w.heap.size<=wr.heap.size:=h.2.2.size
end
theorem LSt.bytes{w wr:World}{p:Nat}{bv x:Value}{st:Bool}{o:Value}{L:Ns}{g c:Nat}{l:List UInt8}(h:LSt w wr p bv st o L g c)(hB:BsS w (·≠p) x l):BsS wr (·≠p) x l:=
 hB.keep fun b hs hl=>⟨h.2.2.block b hl (by intro e;injection e with e;exact hs (by omega)),hs⟩
theorem LSt.draws{w wr:World}{p:Nat}{bv:Value}{st:Bool}{o:Value}{L:Ns}{g c:Nat}(h:LSt w wr p bv st o L g c)(n:Nat):LSt w (wr.drewN n) p bv st o L g c:=
 ⟨h.1.kept (row:=none) ⟨rfl,rfl,rfl,Nat.le_refl _,fun _ _ _=>rfl⟩ (fun p e=>by cases e),h.2.1,jw h.2.2 n⟩
theorem LSt.after{w wr w1:World}{p:Nat}{bv:Value}{st:Bool}{o:Value}{L:Ns}{g c g' c':Nat}(h:LSt w wr p bv st o L g c)(hr:Rd w1 p bv g' st c')(hg:wr.grownBy w1 (some p))(hp:p<w.heap.size):LSt w w1 p bv st o L g' c':=
 ⟨h.1.kept hg (fun q e=>by injection e with e;omega),hr,ky h.2.2 hg⟩
theorem LSt.alloc{w wr:World}{p:Nat}{bv:Value}{st:Bool}{o:Value}{L:Ns}{g c:Nat}(h:LSt w wr p bv st o L g c)(x:Obj):LSt w (wr.alloc x) p bv st o L g c:=
 ⟨h.1.alloc x,(Below.heap_alloc _ _ _ h.2.1.lt).trans h.2.1,jQ h.2.2 x⟩
theorem LSt.push{w wr w2:World}{p:Nat}{bv:Value}{st:Bool}{o o':Value}{L L':Ns}{g c:Nat}(h:LSt w wr p bv st o L g c)(hg:j66 wr w2 w.heap.size o o' L')(hp:p<w.heap.size):LSt w w2 p bv st o' L' g c:=
 ⟨hg.1,(hg.2.1.block p hp).trans h.2.1,⟨hg.2.2.os.trans h.2.2.os,hg.2.2.tape.trans h.2.2.tape,hg.2.2.output.trans h.2.2.output,Nat.le_trans h.2.2.size hg.2.2.size,fun i hi hne=>(hg.2.1.block i hi).trans (h.2.2.block i hi hne)⟩⟩
theorem LSt.put{w wr:World}{p:Nat}{bv:Value}{st:Bool}{o:Value}{L:Ns}{g c:Nat}(h:LSt w wr p bv st o L g c)(n:Nat)(z:Int)(hz:z=n)(hp:p<w.heap.size):LSt w (wr.setCell ⟨p,1,none⟩ (.int .i64 z)) p bv st o L n c:=
 h.after (h.2.1.at_ n z hz) (j7 (World.grownBy.refl wr _) (.inl rfl) _) hp
section
variable{w w':World}{p:Nat}{bv:Value}{a:Nat}{st:Bool}{r:Except Int Lst}{o:Value}{L:Ns}
include w w' p bv a st r o L
theorem ListOut.no{g c:Nat}{er:Int}(hr:r=.error er)(ne:er≠0)(h:LSt w w' p bv st o L g c):
 ListOut r w p bv a st (.returned (.tuple #[.slice none 0 0,.int .i64 er])) w':=by subst hr;exact⟨ne,rfl,⟨g,c,h.2.1⟩,h.2.2⟩
theorem ListOut.yes{g c u:Nat}(hr:r=.ok ⟨L,u,c⟩)(hu:a+u=g)(hl:L.len<=2513169434843)(h:LSt w w' p bv st o L g c):
 ListOut r w p bv a st (.returned (.tuple #[o,.int .i64 0])) w':=by subst hr hu;exact⟨_,rfl,h.1.nss hl,h.2.1,h.2.2⟩
end
theorem y3(L:Ns)(u v c:Nat):yx L u (.ok ⟨.nil,v,c⟩)=.ok ⟨L,u+v,c⟩:=by simp [yx,Ns.app_nil]
theorem UG(n:Nat)(hO:∀m,m<n->j7b m):yU 161 n false:=by
 intro B bb bo bc p a e d c st w hB he hB4 hr ha hn hd hc
 have HB:=iH hB;have HR:=iH hr
 have hp:=hr.lt
 clear hB hr
 go_enter Tryz.func161,Tryz.ntmps161
 go_wp2_with fail
 go_loopg [8] n (fun m o wr=>∃(L:Ns) (u cc:Nat),Hid (jf st n (rst B a e) d c false=yx L u (jf st m (rst B (a+u) e) d cc false))/\LSt w wr p (.slice (some ⟨bb,bo,none⟩) B.length bc) st o L (a+u) cc/\
  a+u<=e/\e - (a+u)<=m/\m<=n/\cc<=256/\L.len<=u)
 case atStart=>exact⟨.nil,0,c,by rw [Jg]<;>rfl,⟨OwnN.nil _ _,HR.out,World.grownBy.refl w _⟩,by omega,by omega,Nat.le_refl _,hc,Nat.le_refl _⟩
 case round=>
  obtain⟨L,u,cc,E,hS,hu1,hu2,hm,hcc,hLl⟩:=hrel
  obtain⟨oa,oc,rfl⟩:=hS.1.form
  have r0:=hS.2.1.c0;have r1:=hS.2.1.c1
  have S:=iH hS
  clear hS
  by_cases hlt:a+u<e
  ·obtain⟨m,rfl⟩:∃m,gk=m+1:=⟨gk - 1,by omega⟩
   have hh:kh (rst B (a+u) e) false=none:=by unfold kh;rw [iF (by decide),iF (by rw [ju he];omega)]
   have HOB:=fun(w1:World) (h1:BsS w1 (·≠p) (.slice (some ⟨bb,bo,none⟩) B.length bc) B) (h2:Rd w1 p (.slice (some ⟨bb,bo,none⟩) B.length bc) (a+u) st cc)=>iH (hO m (by omega) B bb bo bc p (a+u) e d cc st w1 h1 he hB4 h2 (by omega) (by omega) hd hcc)
   have hso:=xZ (st:=st) (jS st m) (l:=rst B (a+u) e) (d:=d) (c:=cc)
   cases hx:kP st m (rst B (a+u) e) d cc with
   |error er=>
    have E2:Hid (jf st n (rst B a e) d c false=.error er):=by rw [E.out,jD hh hx]<;>rfl
    have ner:=hso.2 er hx
    have n0:(er != 0)=true:=by simp [ner]
    have N0:=iH ner
    rw [hx]at HOB
    clear hx hso ner hh E
    go_wp2_with(go_at_call 176;refine(HOB _ (S.out.bytes HB.out) S.out.rd).out.mono ?_;intro e1 w1 h1;obtain⟨_,⟨t1,rfl⟩,⟨a1,c1,hr1⟩,hg1⟩:=h1;have S1:=iH (S.out.after hr1 hg1 hp);clear hr1 hg1)
    go_ret2
    exact ListOut.no E2.out N0.out (S1.out.alloc _)
   |ok x=>
    obtain⟨x1,x2,x3,x4⟩:=hso.1 x hx
    rw [ju he]at x2
    have E2:Hid (jf st n (rst B a e) d c false=yx (L.app (.cons x.tag x.val x.kids .nil)) (u+x.used) (jf st m (rst B (a+(u+x.used)) e) d x.count false)):=by
     rw [E.out,jN hh hx,qB,jH,Nat.add_assoc]<;>rfl
    rw [hx]at HOB
    clear hx hso hh E x4
    go_wp2_with(first
     |(go_at_call 176;refine(HOB _ (S.out.bytes HB.out) S.out.rd).out.mono ?_;intro e1 w1 h1;obtain⟨vv,kv,rfl,hv1,hk1,hi1,hr1,hg1⟩:=h1;obtain⟨va,vc,rfl⟩:=hv1.form2;obtain⟨ka,kc,rfl⟩:=NsS.form2 hk1;have S1:=iH (S.out.after hr1 hg1 hp);have Hv1:=iH hv1;have Hk1:=iH hk1;have Hi1:=iH hi1;have z1:=S1.out.lt;clear hv1 hk1 hr1 hg1 hi1)
     |(at_builtin;(with_reducible refine ku rfl (.tmp 27) (.tmp 29) rfl w.heap.size (.slice oa L.len oc) L rfl (S1.out.own.alloc (.cells #[.int .i64 x.tag,.slice va x.val.length vc,.slice ka x.kids.len kc] 66)) x.tag x.val x.kids (.slice va x.val.length vc) (.slice ka x.kids.len kc) _ (w1.heap.size+1) rfl (by simp) Hi1.out (Hv1.out.keep fun b hs hl=>yu S.out.own S.out.lt _ hs hl) (Hk1.out.keep fun b hs hl=>yu S.out.own S.out.lt _ hs hl) (by omega) (by simp;omega) ?_);intro o2 w2 hg2;have S2:=iH ((S1.out.alloc (.cells #[.int .i64 x.tag,.slice va x.val.length vc,.slice ka x.kids.len kc] 66)).push hg2 hp);clear hg2))
    go_roundg m
    case measure=>omega
    case rel=>exact⟨L.app (.cons x.tag x.val x.kids .nil),u+x.used,x.count,E2.out,by rw [<-Nat.add_assoc];exact S2.out,by omega,by omega,by omega,x3,by rw [Ns.len_snoc];omega⟩
  ·have E2:Hid (jf st n (rst B a e) d c false=.ok ⟨L,u+0,cc⟩):=by
    rw [E.out,kw (u:=0) (by unfold kh;rw [iF (by decide),iT (by rw [ju he];omega)]),y3]<;>rfl
   clear E
   go_wp2_with fail
   go_ret2
   exact ListOut.yes E2.out (by omega) (by omega) S.out
theorem j51(n:Nat)(hO:∀m,m<n->j7b m):yU 189 n true:=by
 intro B bb bo bc p a e d c st w hB he hB4 hr ha hn hd hc
 have HB:=iH hB;have HR:=iH hr
 have hp:=hr.lt
 clear hB hr
 go_enter Tryz.func189,Tryz.ntmps189
 go_wp2_with fail
 go_loopg [8] n (fun m o wr=>∃(L:Ns) (u cc:Nat),Hid (jf st n (rst B a e) d c true=yx L u (jf st m (rst B (a+u) e) d cc true))/\LSt w wr p (.slice (some ⟨bb,bo,none⟩) B.length bc) st o L (a+u) cc/\
  a+u<=e/\e - (a+u)<=m/\m<=n/\cc<=256/\L.len<=u)
 case atStart=>exact⟨.nil,0,c,by rw [Jg]<;>rfl,⟨OwnN.nil _ _,HR.out,World.grownBy.refl w _⟩,by omega,by omega,Nat.le_refl _,hc,Nat.le_refl _⟩
 case round=>
  obtain⟨L,u,cc,E,hS,hu1,hu2,hm,hcc,hLl⟩:=hrel
  obtain⟨oa,oc,rfl⟩:=hS.1.form
  have r0:=hS.2.1.c0;have r1:=hS.2.1.c1
  have S:=iH hS
  clear hS
  have rf:=S.out.2.1.fr 1
  by_cases h0:a+u=e
  ·have E2:Hid (jf st n (rst B a e) d c true=.error 6):=by
    rw [E.out,xI (e:=6) (by unfold kh;rw [iT rfl,iT (.inl (by rw [ju he];omega))])]<;>rfl
   have d0:decide (((a:Int)+u)>=e)=true:=by simp;omega
   clear E
   go_wp2_with fail
   go_quiet (fail)
   go_wp2_with fail
   go_ret2
   exact ListOut.no E2.out (by decide) (S.out.draws nq)
  ·have hl:a+u<B.length:=by omega
   have q1:=(S.out.bytes HB.out).cellAt rfl hl
   have g0:gb (rst B (a+u) e) 0=gb B (a+u):=yL he (by omega)
   obtain⟨x,hx⟩:∃x:Nat,x=(gb B (a+u)).toNat:=⟨_,rfl⟩
   have ex:bv (gb B (a+u))=x:=by rw [hx]<;>rfl
   have ez:gb B (a+u)=0↔x=0:=by rw [hx];exact⟨fun h=>by rw [h]<;>rfl,fun h=>UInt8.toNat_inj.1 h⟩
   change wr.cell? _=some (.int .u8 (bv (gb B (a+u))))at q1
   rw [ex]at q1
   have b1:(0:Int)<=(a:Int)+u:=by omega
   have b2:(a:Int)+u<B.length:=by omega
   have d0:decide (((a:Int)+u)>=e)=false:=by simp;omega
   clear hx ex
   by_cases hx0:x=0
   ·have g0':gb (rst B (a+u) e) 0=0:=g0.trans (ez.2 hx0)
    subst hx0
    by_cases h1:a+u+1=e
    ·have E2:Hid (jf st n (rst B a e) d c true=.error 6):=by
      rw [E.out,xI (e:=6) (by unfold kh;rw [iT rfl,iT (.inr ⟨g0',by rw [ju he];omega⟩)])]<;>rfl
     have d1:decide (((a:Int)+u+1)>=e)=true:=by simp;omega
     clear E g0 g0' ez h0 h1
     go_wp2_with fail
     go_quiet (fail)
     go_wp2_with fail
     go_ret2
     exact ListOut.no E2.out (by decide) (S.out.draws nq)
    ·have hl2:a+u+1<B.length:=by omega
     have d1:decide (((a:Int)+u+1)>=e)=false:=by simp;omega
     have q2:=(S.out.bytes HB.out).cellAt rfl hl2
     have g1:gb (rst B (a+u) e) 1=gb B (a+u+1):=yL he (by omega)
     obtain⟨y,hy⟩:∃y:Nat,y=(gb B (a+u+1)).toNat:=⟨_,rfl⟩
     have ey:bv (gb B (a+u+1))=y:=by rw [hy]<;>rfl
     have ew:gb B (a+u+1)=0↔y=0:=by rw [hy];exact⟨fun h=>by rw [h]<;>rfl,fun h=>UInt8.toNat_inj.1 h⟩
     change wr.cell? _=some (.int .u8 (bv (gb B (a+u+1))))at q2
     rw [ey]at q2
     have b3:(0:Int)<=(a:Int)+u+1:=by omega
     have b4:(a:Int)+u+1<B.length:=by omega
     have hn1:¬((rst B (a+u) e).length=0\/(gb (rst B (a+u) e) 0=0/\(rst B (a+u) e).length=1)):=by rw [ju he];omega
     clear hy ey
     by_cases hy0:y=0
     ·have g1':=g1.trans (ew.2 hy0)
      subst hy0
      have E2:Hid (jf st n (rst B a e) d c true=.ok ⟨L,u+2,cc⟩):=by
       rw [E.out,kw (u:=2) (by unfold kh;rw [iT rfl,iF hn1,iT ⟨g0',g1'⟩]),y3]<;>rfl
      clear E g0 g0' g1 g1' ez ew hn1 h0 h1
      go_wp2_with fail
      go_quiet (fail)
      go_wp2_with fail
      go_quiet (fail)
      go_wp2_with fail
      go_ret2
      exact ListOut.yes E2.out (by omega) (by omega) ((S.out.draws _).put (a+(u+2)) _ (by omega) hp)
     ·obtain⟨m,rfl⟩:∃m,gk=m+1:=⟨gk - 1,by omega⟩
      have hh:kh (rst B (a+u) e) true=none:=by unfold kh;rw [iT rfl,iF hn1,iF (fun h=>hy0 (ew.1 (g1.symm.trans h.2)))]
      have y0:((y:Int)==0)=false:=by simp;omega
      clear g0 g0' g1 ez ew hn1 h0 h1 hy0
      have HOB:=fun(w1:World) (h1:BsS w1 (·≠p) (.slice (some ⟨bb,bo,none⟩) B.length bc) B) (h2:Rd w1 p (.slice (some ⟨bb,bo,none⟩) B.length bc) (a+u) st cc)=>iH (hO m (by omega) B bb bo bc p (a+u) e d cc st w1 h1 he hB4 h2 (by omega) (by omega) hd hcc)
      have hso:=xZ (st:=st) (jS st m) (l:=rst B (a+u) e) (d:=d) (c:=cc)
      cases hx:kP st m (rst B (a+u) e) d cc with
      |error er=>
       have E2:Hid (jf st n (rst B a e) d c true=.error er):=by rw [E.out,jD hh hx]<;>rfl
       have ner:=hso.2 er hx
       have n0:(er != 0)=true:=by simp [ner]
       have N0:=iH ner
       rw [hx]at HOB
       clear hx hso ner hh E
       go_wp2_with fail
       go_quiet (fail)
       obtain⟨q1,hq1⟩:∃q,q=nq:=⟨_,rfl⟩
       rw [<-hq1]
       clear hq1
       go_wp2_with fail
       go_quiet (fail)
       have S:=iH (S.out.draws (q1+nq))
       go_wp2_with(go_at_call 176;refine(HOB _ (S.out.bytes HB.out) S.out.rd).out.mono ?_;intro e1 w1 h1;obtain⟨_,⟨t1,rfl⟩,⟨a1,c1,hr1⟩,hg1⟩:=h1;have S1:=iH (S.out.after hr1 hg1 hp);clear hr1 hg1)
       go_ret2
       exact ListOut.no E2.out N0.out (S1.out.alloc _)
      |ok x=>
       obtain⟨x1,x2,x3,x4⟩:=hso.1 x hx
       rw [ju he]at x2
       have E2:Hid (jf st n (rst B a e) d c true=yx (L.app (.cons x.tag x.val x.kids .nil)) (u+x.used) (jf st m (rst B (a+(u+x.used)) e) d x.count true)):=by
        rw [E.out,jN hh hx,qB,jH,Nat.add_assoc]<;>rfl
       rw [hx]at HOB
       clear hx hso hh E x4
       go_wp2_with fail
       go_quiet (fail)
       obtain⟨q1,hq1⟩:∃q,q=nq:=⟨_,rfl⟩
       rw [<-hq1]
       clear hq1
       go_wp2_with fail
       go_quiet (fail)
       have S:=iH (S.out.draws (q1+nq))
       go_wp2_with(first
        |(go_at_call 176;refine(HOB _ (S.out.bytes HB.out) S.out.rd).out.mono ?_;intro e1 w1 h1;obtain⟨vv,kv,rfl,hv1,hk1,hi1,hr1,hg1⟩:=h1;obtain⟨va,vc,rfl⟩:=hv1.form2;obtain⟨ka,kc,rfl⟩:=NsS.form2 hk1;have S1:=iH (S.out.after hr1 hg1 hp);have Hv1:=iH hv1;have Hk1:=iH hk1;have Hi1:=iH hi1;have z1:=S1.out.lt;clear hv1 hk1 hr1 hg1 hi1)
        |(at_builtin;(with_reducible refine ku rfl (.tmp 82) (.tmp 84) rfl w.heap.size (.slice oa L.len oc) L rfl (S1.out.own.alloc (.cells #[.int .i64 x.tag,.slice va x.val.length vc,.slice ka x.kids.len kc] 66)) x.tag x.val x.kids (.slice va x.val.length vc) (.slice ka x.kids.len kc) _ (w1.heap.size+1) rfl (by simp) Hi1.out (Hv1.out.keep fun b hs hl=>yu S.out.own S.out.lt _ hs hl) (Hk1.out.keep fun b hs hl=>yu S.out.own S.out.lt _ hs hl) (by omega) (by simp;omega) ?_);intro o2 w2 hg2;have S2:=iH ((S1.out.alloc (.cells #[.int .i64 x.tag,.slice va x.val.length vc,.slice ka x.kids.len kc] 66)).push hg2 hp);clear hg2))
       go_roundg m
       case measure=>omega
       case rel=>exact⟨L.app (.cons x.tag x.val x.kids .nil),u+x.used,x.count,E2.out,by rw [<-Nat.add_assoc];exact S2.out,by omega,by omega,by omega,x3,by rw [Ns.len_snoc];omega⟩
   ·obtain⟨m,rfl⟩:∃m,gk=m+1:=⟨gk - 1,by omega⟩
    have hne:¬gb (rst B (a+u) e) 0=0:=fun h=>hx0 (ez.1 (g0.symm.trans h))
    have hh:kh (rst B (a+u) e) true=none:=by
     unfold kh;rw [iT rfl,iF (fun h=>h.elim (fun h=>by rw [ju he]at h;omega) fun h=>hne h.1),iF (fun h=>hne h.1)]
    have x0:((x:Int)==0)=false:=by simp;omega
    clear g0 ez h0 hx0 hne
    have HOB:=fun(w1:World) (h1:BsS w1 (·≠p) (.slice (some ⟨bb,bo,none⟩) B.length bc) B) (h2:Rd w1 p (.slice (some ⟨bb,bo,none⟩) B.length bc) (a+u) st cc)=>iH (hO m (by omega) B bb bo bc p (a+u) e d cc st w1 h1 he hB4 h2 (by omega) (by omega) hd hcc)
    have hso:=xZ (st:=st) (jS st m) (l:=rst B (a+u) e) (d:=d) (c:=cc)
    cases hx:kP st m (rst B (a+u) e) d cc with
    |error er=>
     have E2:Hid (jf st n (rst B a e) d c true=.error er):=by rw [E.out,jD hh hx]<;>rfl
     have ner:=hso.2 er hx
     have n0:(er != 0)=true:=by simp [ner]
     have N0:=iH ner
     rw [hx]at HOB
     clear hx hso ner hh E
     go_wp2_with fail
     go_quiet (fail)
     obtain⟨q1,hq1⟩:∃q,q=nq:=⟨_,rfl⟩
     rw [<-hq1]
     clear hq1
     go_wp2_with fail
     go_quiet (fail)
     have S:=iH (S.out.draws (q1+nq))
     go_wp2_with(go_at_call 176;refine(HOB _ (S.out.bytes HB.out) S.out.rd).out.mono ?_;intro e1 w1 h1;obtain⟨_,⟨t1,rfl⟩,⟨a1,c1,hr1⟩,hg1⟩:=h1;have S1:=iH (S.out.after hr1 hg1 hp);clear hr1 hg1)
     go_ret2
     exact ListOut.no E2.out N0.out (S1.out.alloc _)
    |ok x=>
     obtain⟨x1,x2,x3,x4⟩:=hso.1 x hx
     rw [ju he]at x2
     have E2:Hid (jf st n (rst B a e) d c true=yx (L.app (.cons x.tag x.val x.kids .nil)) (u+x.used) (jf st m (rst B (a+(u+x.used)) e) d x.count true)):=by
      rw [E.out,jN hh hx,qB,jH,Nat.add_assoc]<;>rfl
     rw [hx]at HOB
     clear hx hso hh E x4
     go_wp2_with fail
     go_quiet (fail)
     obtain⟨q1,hq1⟩:∃q,q=nq:=⟨_,rfl⟩
     rw [<-hq1]
     clear hq1
     go_wp2_with fail
     go_quiet (fail)
     have S:=iH (S.out.draws (q1+nq))
     go_wp2_with(first
      |(go_at_call 176;refine(HOB _ (S.out.bytes HB.out) S.out.rd).out.mono ?_;intro e1 w1 h1;obtain⟨vv,kv,rfl,hv1,hk1,hi1,hr1,hg1⟩:=h1;obtain⟨va,vc,rfl⟩:=hv1.form2;obtain⟨ka,kc,rfl⟩:=NsS.form2 hk1;have S1:=iH (S.out.after hr1 hg1 hp);have Hv1:=iH hv1;have Hk1:=iH hk1;have Hi1:=iH hi1;have z1:=S1.out.lt;clear hv1 hk1 hr1 hg1 hi1)
      |(at_builtin;(with_reducible refine ku rfl (.tmp 82) (.tmp 84) rfl w.heap.size (.slice oa L.len oc) L rfl (S1.out.own.alloc (.cells #[.int .i64 x.tag,.slice va x.val.length vc,.slice ka x.kids.len kc] 66)) x.tag x.val x.kids (.slice va x.val.length vc) (.slice ka x.kids.len kc) _ (w1.heap.size+1) rfl (by simp) Hi1.out (Hv1.out.keep fun b hs hl=>yu S.out.own S.out.lt _ hs hl) (Hk1.out.keep fun b hs hl=>yu S.out.own S.out.lt _ hs hl) (by omega) (by simp;omega) ?_);intro o2 w2 hg2;have S2:=iH ((S1.out.alloc (.cells #[.int .i64 x.tag,.slice va x.val.length vc,.slice ka x.kids.len kc] 66)).push hg2 hp);clear hg2))
     go_roundg m
     case measure=>omega
     case rel=>exact⟨L.app (.cons x.tag x.val x.kids .nil),u+x.used,x.count,E2.out,by rw [<-Nat.add_assoc];exact S2.out,by omega,by omega,by omega,x3,by rw [Ns.len_snoc];omega⟩
theorem VY(n:Nat):yU 189 n true/\yU 161 n false:=by
 induction n using Nat.strongRecOn with
 |_ n ih=>exact⟨j51 n fun m hm=>KF m (ih m hm).1 (ih m hm).2,UG n fun m hm=>KF m (ih m hm).1 (ih m hm).2⟩
def j57:Except Int Ns->Ns
 |.error _=>.nil
 |.ok l=>l
def NodesOut(r:Except Int Ns)(w:World)(e:Ending)(w':World):Prop:=
 ∃v',e=.returned (.tuple #[v',.int .i64 (j4w r)])/\NsS w' (New w w') v' (j57 r)/\Below w.heap.size w w'
theorem NodesOut.no{w w':World}{r:Except Int Ns}{e:Int}(hr:r=.error e)(hb:Below w.heap.size w w'):NodesOut r w (.returned (.tuple #[.slice none 0 0,.int .i64 e])) w':=by
 subst hr
 exact⟨_,rfl,NsS.nil0 _ _,hb⟩
theorem NodesOut.yes{w w':World}{r:Except Int Ns}{l:Ns}{v:Value}(hr:r=.ok l)(hv:NsS w' (New w w') v l)(hb:Below w.heap.size w w'):NodesOut r w (.returned (.tuple #[v,.int .i64 0])) w':=by
 subst hr
 exact⟨_,rfl,hv,hb⟩
theorem NodesOut.err{er:Int}{w:World}{e:Ending}{w':World}(h:NodesOut (.error er) w e w'):∃a c,e=.returned (.tuple #[.slice a 0 c,.int .i64 er])/\Below w.heap.size w w':=by
 obtain⟨v,h1,h2,h3⟩:=h
 obtain⟨a,c,rfl⟩:=NsS.form2 h2
 exact⟨a,c,h1,h3⟩
theorem NodesOut.got{l:Ns}{w:World}{e:Ending}{w':World}(h:NodesOut (.ok l) w e w'):∃a c,e=.returned (.tuple #[.slice a l.len c,.int .i64 0])/\NsS w' (New w w') (.slice a l.len c) l/\Below w.heap.size w w':=by
 obtain⟨v,h1,h2,h3⟩:=h
 obtain⟨a,c,rfl⟩:=NsS.form2 h2
 exact⟨a,c,h1,h2,h3⟩
theorem XO(p:Nat)(bv:Value)(st:Bool)(w:World)(hr:Rd w p bv 0 st 0):
 Calls Tryz.prog 161 #[.pointer (some ⟨p,0,none⟩),.int .i64 0,.int .i64 1] w fun e w'=>e=.returned (.tuple #[.slice none 0 0,.int .i64 0])/\w'=w:=by
 have r1:=hr.c1
 clear hr
 go_enter Tryz.func161,Tryz.ntmps161
 go_wp2_with fail
 refine wp_loop_rounds 1 ?_
 rw [rounds_succ]
 go_wp2
 go_ret2
 exact⟨rfl,rfl⟩
section
variable{l:List UInt8}{st:Bool}
include l st
theorem JK(h:4096<l.length):kl l st=.error 2:=by unfold kl;rw [iT h]
theorem KK{er:Int}(h:¬4096<l.length)(hl:jf st l.length l 1 0 false=.error er):kl l st=.error er:=by unfold kl;rw [iF h,hl]
theorem JL{r:Lst}(h:¬4096<l.length)(hl:jf st l.length l 1 0 false=.ok r):kl l st=.ok r.list:=by unfold kl;rw [iF h,hl]
end
theorem j5o(B:List UInt8):rst B 0 B.length=B:=by simp [rst]
theorem yJ{w w':World}{o:Obj}(hg:(w.alloc o).grownBy w' (some w.heap.size)):Below w.heap.size w w':=(iB.alloc iL o).trans (j8 hg (by simp) iL)
theorem XU(B:List UInt8)(v:Value)(st:Bool)(w:World)(hv:Bs w w.heap.size v B):Calls Tryz.prog 124 #[v,.bool st] w (NodesOut (kl B st) w):=by
 have hlen:=hv.len
 by_cases h1:4096<B.length
 ·obtain⟨a,c,rfl⟩:=hv.form2
  have E:=iH (JK (st:=st) h1)
  clear hv
  go_enter Tryz.func124,Tryz.ntmps124
  go_wp2_with fail
  go_ret2
  exact NodesOut.no E.out iB
 ·by_cases h0:B.length=0
  ·have e:B= []:=List.eq_nil_of_length_eq_zero h0
   subst e
   obtain⟨a,c,rfl⟩:=hv.form2
   have E:Hid (kl [] st=.ok .nil):=by exact JL (by simp) (kw (u:=0) rfl)
   have hr:=XO w.heap.size (.slice a ([]:List UInt8).length c) st (w.alloc (.cells #[.slice a ([]:List UInt8).length c,.int .i64 0,.bool st,.int .i64 0] 173)) (iN)
   have HR:=iH hr
   clear hv hr h0 h1 hlen
   simp only [List.length_nil]at HR |-
   go_enter Tryz.func124,Tryz.ntmps124
   go_wp2_with(go_at_call 161;refine HR.out.mono ?_;rintro e w1 ⟨rfl,rfl⟩)
   go_ret2
   exact NodesOut.yes E.out (NsS.nil0 _ _) (iA)
  ·obtain⟨a,c,rfl⟩:=hv.form2
   obtain⟨bb,bo,rfl⟩:∃b off,a=some ⟨b,off,none⟩:=by
    obtain⟨_,_,hv,_,_,_,h4⟩:=hv
    injection hv with ha _ _
    obtain⟨b,off,e,_⟩:=h4 (by omega)
    exact⟨b,off,ha.trans e⟩
   have hc:=(VY B.length).2 B bb bo c w.heap.size 0 B.length 1 0 st (w.alloc (.cells #[.slice (some ⟨bb,bo,none⟩) B.length c,.int .i64 0,.bool st,.int .i64 0] 173))
    (hv.keep fun b hs hl=>⟨Below.heap_alloc _ _ _ hl,by omega⟩) iL (by omega) (iN) (by omega) (by omega) (by omega) (by omega)
   rw [j5o]at hc
   have HC:=iH hc
   cases hl:jf st B.length B 1 0 false with
   |error er=>
    have E:=iH (KK h1 hl)
    rw [hl]at HC
    clear hc hl hv
    go_enter Tryz.func124,Tryz.ntmps124
    go_wp2_with(go_at_call 161;refine HC.out.mono ?_;intro e w1 h1;obtain⟨_,rfl,_,hg⟩:=h1;have Hg:=iH hg;clear hg)
    go_ret2
    exact NodesOut.no E.out (yJ Hg.out)
   |ok r=>
    have E:=iH (JL h1 hl)
    rw [hl]at HC
    clear hc hl hv
    go_enter Tryz.func124,Tryz.ntmps124
    go_wp2_with(go_at_call 161;refine HC.out.mono ?_;intro e w1 h1;obtain⟨v1,rfl,hv1,_,hg⟩:=h1;obtain⟨va,vc,rfl⟩:=NsS.form2 hv1;have Hv1:=iH hv1;have Hg:=iH hg;clear hg hv1)
    go_ret2
    exact NodesOut.yes E.out (Hv1.out.keep fun b hs _=>⟨rfl,by have:=hs.1;(try simp at this);omega,hs.2⟩) (yJ Hg.out)
theorem xj{B:List UInt8}{st:Bool}{er:Int}(h:kl B st=.error er):er≠0:=by
 unfold kl at h
 split at h
 ·injection h with h;omega
 ·cases hr:jf st B.length B 1 0 false with
  |error e=>rw [hr]at h;injection h with h;subst h;exact(jS st B.length B 1 0 false (by omega)).2 _ hr
  |ok r=>rw [hr]at h;cases h
end Go.Proofs.YtalmmiojbmpmiaaGreatDoor
