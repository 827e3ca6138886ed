/- A region that draws its order, by what each operation leaves behind: one walk, whatever the order; no program is named here; A sum that does not wrap. No pro... -/
import Derived.StillTailTactics
import Derived.Test.YtalmmiojbmpmiaaGreatDoorChecked
import Derived.Test.YtalmmiojbmpmiaaGreatDoorPg
set_option linter.all false
set_option maxRecDepth 100000
set_option maxHeartbeats 8000000
namespace Go.Proofs.YtalmmiojbmpmiaaGreatDoor
open Go.RowKit Go.Deep
theorem mb{P:Prop}(h:P:=by
 rintro e w5 ⟨rfl,hw5⟩
 rw [hw5]
 exact hK _ _ hJ (Below.refl _ _) rfl):P:=h
theorem mE{P:Prop}(h:P:=by
 go_simp
 exact hK _ _ (hJ.alloc hJ.size _) ((Below.refl _ _).alloc (Nat.le_refl _) _) ⟨_,rfl,heap_alloc_new _ _⟩):P:=h
theorem m2f{P:Prop}(h:P:=by
 obtain⟨bb,bo,h1,h2,h3⟩:=hcell (by omega)
 exact⟨bb,bo,h1,⟨h2,block_lt_of_cell (h3 0 (by omega))⟩,h3⟩):P:=h
theorem m33{P:Prop}(h:P:=by
 rintro e w5 ⟨rfl,hw5⟩
 rw [hw5,j6y]
 exact hK _ _ hJ (Below.refl _ _) rfl):P:=h
theorem m34{P:Prop}(h:P:=by
 rintro e w5 ⟨rfl,hw5⟩
 rw [hw5,j6x]
 exact hK _ _ hJ (Below.refl _ _) rfl):P:=h
theorem m3d{P:Prop}(h:P:=by
 obtain⟨_,o,ho,_⟩:=mem_ready.1 hr
 have:=(iG ho)
 omega):P:=h
def jb:List (Option Tmp)->Nat->(Nat->Value)->Act->Act
 |[],_,_,a=>a
 |d :: ds,k,v,a=>jb ds (k+1) v (a.put d (v k))
def xU(v:Nat->Value)(i:Nat)(y:Value):Nat->Value:=fun k=>if k=i then y else v k
def KG(L:Nat->Bool)(i:Nat):Nat->Bool:=fun k=>if k=i then true else L k
def Jm(s:List Nat)(v:Nat->Value):Nat->Value:=fun k=>if k∈s then v k else undef
def XO(a:Act):Option Tmp->Value
 |some d=>a.tmps.getD d undef
 |none=>undef
theorem Act.put_get(a:Act)(d:Option Tmp):a.put d (XO a d)=a:=by
 cases d with
 |none=>rfl
 |some d=>
  obtain⟨t,de⟩:=a
  simp only [Act.put,XO]
  congr 1
  apply Array.ext
  ·simp
  ·intro i h1 h2
   by_cases h:d=i
   ·subst h;simp [h2]
   ·rw [Array.getElem_setIfInBounds_ne _ h]
theorem Act.put_put(a:Act)(d:Option Tmp)(u v:Value):(a.put d u).put d v=a.put d v:=by
 cases d with
 |none=>rfl
 |some d=>
  obtain⟨t,de⟩:=a
  simp only [Act.put]
  congr 1
  apply Array.ext
  ·simp
  ·intro i h1 h2
   by_cases h:d=i
   ·subst h;simp
   ·simp
theorem Us:∀(ds:List (Option Tmp)) (k:Nat) (a:Act),jb ds k (fun j=>XO a (ds.getD (j - k) none)) a=a:=by
 intro ds
 induction ds with
 |nil=>intros;rfl
 |cons d ds ih=>
  intro k a
  unfold jb
  simp only [Nat.sub_self,List.getD_cons_zero]
  rw [Act.put_get]
  have:∀(b:Act),jb ds (k+1) (fun j=>XO a ((d :: ds).getD (j - k) none)) b=jb ds (k+1) (fun j=>XO a (ds.getD (j - (k+1)) none)) b:=by
   suffices h:∀(l:List (Option Tmp)) (m:Nat),k<m->∀b,jb l m (fun j=>XO a ((d :: ds).getD (j - k) none)) b=jb l m (fun j=>XO a (ds.getD (j - (k+1)) none)) b from h ds (k+1) (by omega)
   intro l
   induction l with
   |nil=>intros;rfl
   |cons e l ihl=>
    intro m hm b
    unfold jb
    rw [ihl (m+1) (by omega)]
    obtain⟨q,hq⟩:∃q,m - k=q+1:=⟨m - k - 1,by omega⟩
    have hq':m - (k+1)=q:=by omega
    simp only [hq,hq',List.getD_cons_succ]
  rw [this,ih]
def zB:List (Option Tmp)->Bool
 |[]=>true
 |none :: ds=>zB ds
 |some d :: ds=> !ds.contains (some d)&&zB ds
theorem Ut(x:Option Tmp)(y:Value):∀(ds:List (Option Tmp)) (k:Nat) (v:Nat->Value) (a:Act),(∀d,x=some d->some d ∉ ds)->(jb ds k v a).put x y=jb ds k v (a.put x y):=by
 intro ds
 induction ds with
 |nil=>intros;rfl
 |cons d ds ih=>
  intro k v a h
  unfold jb
  rw [ih _ _ _ (fun e he hm=>h e he (List.mem_cons_of_mem _ hm)),Act.put_comm a (v k) y (fun e he hx=>h e hx (he▸List.mem_cons_self))]
theorem XK:∀(ds:List (Option Tmp)) (k:Nat) (v u:Nat->Value) (a:Act),(∀j,k<=j->v j=u j)->jb ds k v a=jb ds k u a:=by
 intro ds
 induction ds with
 |nil=>intros;rfl
 |cons d ds ih=>intro k v u a h;unfold jb;rw [h k iL,ih _ v u _ (fun j hj=>h j (by omega))]
theorem Uu(y:Value):∀(ds:List (Option Tmp)) (k:Nat) (v:Nat->Value) (a:Act) (i:Nat),zB ds=true->i<ds.length->
 (jb ds k v a).put (ds.getD i none) y=jb ds k (xU v (k+i) y) a:=by
 intro ds
 induction ds with
 |nil=>intro k v a i _ h;cases h
 |cons d ds ih=>
  intro k v a i hap hi
  have hap2:zB ds=true:=by
   cases d with
   |none=>exact hap
   |some d=>simp only [zB,Bool.and_eq_true]at hap;exact hap.2
  have hd:∀e,d=some e->some e ∉ ds:=by
   intro e he;subst he
   simp only [zB,Bool.and_eq_true,Bool.not_eq_true',List.contains_eq_mem,decide_eq_false_iff_not]at hap
   exact hap.1
  cases i with
  |zero=>
   simp only [List.getD_cons_zero,Nat.add_zero]
   show(jb ds (k+1) v (a.put d (v k))).put d y=jb ds (k+1) (xU v k y) (a.put d (xU v k y k))
   rw [Ut d y ds _ _ _ hd,Act.put_put,XK ds (k+1) v (xU v k y) _ (fun j hj=>by simp only [xU];rw [iF (by omega)])]
   simp [xU]
  |succ i=>
   simp only [List.getD_cons_succ]
   show(jb ds (k+1) v (a.put d (v k))).put _ y=jb ds (k+1) (xU v (k+(i+1)) y) (a.put d (xU v (k+(i+1)) y k))
   rw [ih (k+1) v _ i hap2 (by simpa using hi)]
   have e1:xU v (k+(i+1)) y k=v k:=by simp only [xU];rw [iF (by omega)]
   rw [e1,show k+1+i=k+(i+1)by omega]
section
variable {P:Program} {Q:Exit->Act->World->Prop}
def j6b(P:Program)(ops:Array Oper)(Q:Exit->Act->World->Prop)(ds:List (Option Tmp))(anc:List (List Nat))(J:(Nat->Bool)->(Nat->Value)->World->Prop)(R:World->World->Prop)(F:List ((Nat->Value)->World->Prop))(a0:Act)(i:Nat)(o:Oper):Prop:=
 ∀(L:Nat->Bool) (v:Nat->Value) (w:World),J L v w->L i=false->(∀k,k∈anc.getD i []->L k=true)->(∀k,L k=true->(F.getD k fun _ _=>True) (Jm (k :: anc.getD k []) v) w)->∀K:Act->World->Prop,
  (∀y w',J (KG L i) (xU v i y) w'->R w w'->(F.getD i fun _ _=>True) (Jm (i :: anc.getD i []) (xU v i y)) w'->K ((jb ds 0 v a0).put o.dst y) w')->
  if Region.wanted o (yielded ops (jb ds 0 v a0).tmps)=true then Oper.wp P o (jb ds 0 v a0) w K Q else K ((jb ds 0 v a0).put o.dst undef) w
def StepsRG(S:Nat->Oper->Prop):List Oper->Nat->Prop
 |[],_=>True
 |o :: l,i=>S i o/\StepsRG S l (i+1)
section
variable{S:Nat->Oper->Prop}
include S
theorem StepsRG.cons{o:Oper}{l:List Oper}{i:Nat}(h:S i o)(hs:StepsRG S l (i+1)):StepsRG S (o :: l) i:=⟨h,hs⟩
theorem StepsRG.nil{i:Nat}:StepsRG S [] i:=trivial
theorem StepsRG.get:∀ {l:List Oper} {k:Nat},StepsRG S l k->∀i o,l[i]?=some o->S (k+i) o:=by
 intro l
 induction l with
 |nil=>intro k _ i o h;simp at h
 |cons x l ih=>
  intro k h i o ho
  cases i with
  |zero=>simp at ho;subst ho;exact h.1
  |succ i=>have:=ih h.2 i o (by simpa using ho);rwa [show k+1+i=k+(i+1)by omega]at this
end
def Vu(J:(Nat->Bool)->(Nat->Value)->World->Prop)(R:World->World->Prop)(f:(Nat->Value)->World->Prop):Prop:=∀v w w',(∃L u,J L u w)->(∃L u,J L u w')->R w w'->f v w->f v w'
def StabsRG(J:(Nat->Bool)->(Nat->Value)->World->Prop)(R:World->World->Prop):List ((Nat->Value)->World->Prop)->Prop
 |[]=>True
 |f :: l=>Vu J R f/\StabsRG J R l
theorem StabsRG.get{J:(Nat->Bool)->(Nat->Value)->World->Prop}{R:World->World->Prop}:∀ {l:List ((Nat->Value)->World->Prop)},StabsRG J R l->∀i,Vu J R (l.getD i fun _ _=>True):=by
 intro l
 induction l with
 |nil=>intro _ i v w w' _ _ _ _;simp
 |cons x l ih=>
  intro h i
  cases i with
  |zero=>exact h.1
  |succ i=>exact ih h.2 i
def ZH(ops:Array Oper)(n:Nat)(ds:List (Option Tmp))(anc:List (List Nat)):Bool:=
 decide (n<=ops.size)&&decide (ds=(ops.toList.take n).map (·.dst))&&zB ds&&
 ((List.range n).all fun i=>match ops[i]? with
   |some o=>(o.after.all fun e=> !Region.binds .any e||decide (e.on<i))&&(anc.getD i []).all fun k=>o.after.any fun e=>Region.binds .any e&&(e.on==k||(anc.getD e.on []).contains k)
   |none=>false)&&
 (decide (n=ops.size)||(Region.sinkB .any ops n&&Region.chainB .any ops n))&&
 Region.seqB .any ops (ops.size - n) n ((List.replicate n true++List.replicate (ops.size - n) false).toArray)
theorem ZQ(p q:Nat->Bool)(i:Nat):∀n,i<n->(∀j,j≠i->q j=p j)->p i=true->q i=false->(List.range n).countP q+1=(List.range n).countP p:=by
 intro n
 induction n with
 |zero=>intro h;cases h
 |succ n ih=>
  intro hi hj hp hq
  rw [List.range_succ,List.countP_append,List.countP_append]
  by_cases h:i=n
  ·subst h
   have:(List.range i).countP q=(List.range i).countP p:=List.countP_congr fun x hx=>by rw [hj x (by have:=List.mem_range.1 hx;omega)]
   simp [hp,hq,this]
  ·have:=ih (by omega) hj hp hq
   simp only [List.countP_cons,List.countP_nil,hj n (Ne.symm h)]
   omega
structure j7b (ops:Array Oper) (n:Nat) (ds:List (Option Tmp)) (anc:List (List Nat)) (J:(Nat->Bool)->(Nat->Value)->World->Prop) (F:List ((Nat->Value)->World->Prop)) (a0:Act) (L:Array Bool) (a:Act) (w:World):Prop where
 hd:HeadInv .any ops n L
 f:∃v,a=jb ds 0 v a0/\J (fun k=>L.getD k false) v w/\∀k,L.getD k false=true->(F.getD k fun _ _=>True) (Jm (k :: anc.getD k []) v) w
theorem ZA{id:Nat}{l:List Oper}{a0:Act}{w:World}(n:Nat)(ds:List (Option Tmp))(anc:List (List Nat))(J:(Nat->Bool)->(Nat->Value)->World->Prop)(R:World->World->Prop)(F:List ((Nat->Value)->World->Prop))(hm:P.follows .mixedOrders=true)(hc:ZH l.toArray n ds anc=true)(hG:∀v,J (fun _=>false) v w.drew)(hst:StabsRG J R F)(hs:StepsRG (j6b P l.toArray Q ds anc J R F a0) (l.take n) 0)(ht:∀v w,J (fun k=>decide (k<n)) v w->(∀k,k<n->(F.getD k fun _ _=>True) (Jm (k :: anc.getD k []) v) w)->wpList P l.toArray Q (l.drop n) (jb ds 0 v a0) w):
 (Code.region id l.toArray true).wp P Q a0 w:=by
 simp only [ZH,Bool.and_eq_true,decide_eq_true_eq,Bool.or_eq_true]at hc
 obtain⟨⟨⟨⟨⟨hn,hds⟩,hap⟩,hed⟩,htl⟩,hsq⟩:=hc
 have hn':n<=l.length:=by simpa using hn
 have hlen:ds.length=n:=by rw [hds];simp;omega
 have hops:∀i (o:Oper),l.toArray[i]?=some o->i<n->(l.take n)[i]?=some o/\ds.getD i none=o.dst:=by
  intro i o ho hi
  have h1:(l.take n)[i]?=some o:=by rw [List.getElem?_take];simp only [hi,if_true];simpa using ho
  refine⟨h1,?_⟩
  rw [hds]
  have h2:(l.take n)[i]?=some o:=h1
  simp only [List.getD_eq_getElem?_getD,List.getElem?_map]
  rw [show(l.toArray.toList.take n)[i]?=some o from h2]
  rfl
 have hedge:∀i o,l.toArray[i]?=some o->i<n->(∀e∈o.after,Region.binds .any e=true->e.on<i)/\∀k,k∈anc.getD i []->∃e∈o.after,Region.binds .any e=true/\(e.on=k\/k∈anc.getD e.on []):=by
  intro i o ho hi
  have h:=List.all_eq_true.1 hed i (List.mem_range.2 hi)
  simp only [ho,Bool.and_eq_true]at h
  refine⟨fun e he hb=> ?_,fun k hk=> ?_⟩
  ·have:=Array.all_eq_true_iff_forall_mem.1 h.1 e he
   simpa [hb]using this
  ·have:=List.all_eq_true.1 h.2 k hk
   obtain⟨e,he,hb⟩:=Array.any_eq_true'.1 this
   simp only [Bool.and_eq_true,Bool.or_eq_true,beq_iff_eq,List.contains_eq_mem,decide_eq_true_eq]at hb
   exact⟨e,he,hb.1,hb.2⟩
 have hanc:∀(L:Array Bool),HeadInv .any l.toArray n L->∀i,∀j,j<=i->j<n->∀o,l.toArray[j]?=some o->(∀e∈o.after,Region.binds .any e=true->L.getD e.on false=true)->∀k,k∈anc.getD j []->k<n/\L.getD k false=true:=by
  intro L hL i
  induction i with
  |zero=>
   intro j hj hjn o ho hall k hk
   obtain⟨e,he,hb,_⟩:=(hedge j o ho hjn).2 k hk
   have:=(hedge j o ho hjn).1 e he hb
   omega
  |succ i ih=>
   intro j hj hjn o ho hall k hk
   obtain⟨e,he,hb,hek⟩:=(hedge j o ho hjn).2 k hk
   have hlt:=(hedge j o ho hjn).1 e he hb
   rcases hek with rfl|hek
   ·exact⟨by omega,hall e he hb⟩
   ·have hsz:e.on<l.toArray.size:=iZ (Nat.lt_trans hlt hjn) hn
    exact ih e.on (by omega) (by omega) _ (Array.getElem?_eq_getElem hsz) (fun e' he' hb'=>hL.closed e.on _ (Array.getElem?_eq_getElem hsz) (hall e he hb) e' he' hb') k hek
 have hprog:∀(L:Array Bool),HeadInv .any l.toArray n L->∀i,i<n->L.getD i true=false->(∃j,j<n/\j∈Region.ready .any l.toArray L)/\∀t,n<=t->t ∉ Region.ready .any l.toArray L:=by
  intro L hL i hi hun
  constructor
  ·induction i using Nat.strongRecOn with
   |_ i ih=>
    have hsz:i<l.toArray.size:=iZ hi hn
    rcases Classical.em (∀e∈l.toArray[i].after,Region.binds .any e=true->L.getD e.on false=true)with h|h
    ·exact⟨i,hi,mem_ready.2 ⟨hun,_,Array.getElem?_eq_getElem hsz,h⟩⟩
    ·have⟨e,h1⟩:=Classical.not_forall.1 h
     have⟨he,h2⟩:=Classical.not_imp.1 h1
     have⟨hb,h3⟩:=Classical.not_imp.1 h2
     have hlt:=(hedge i _ (Array.getElem?_eq_getElem hsz) hi).1 e he hb
     exact ih e.on hlt (by omega) (getD_in (by rw [hL.size];omega) (by simpa using h3))
  ·intro t htn hr
   rcases htl with h|h
   ·exact m3d
   ·rcases Nat.lt_or_ge n l.toArray.size with h'|h'
    ·exact tail_waits h.1 h.2 h' hL (n - i) i rfl hi hun t htn hr
    ·exact m3d
 have hfull:∀(L:Array Bool),HeadInv .any l.toArray n L->(∀i,i<n->L.getD i false=true)->L=(List.replicate n true++List.replicate (l.toArray.size - n) false).toArray:=by
  intro L hL hall
  apply Array.ext
  ·rw [hL.size];simp;simp at hn;omega
  ·intro i h1 h2
   rcases Nat.lt_or_ge i n with h|h
   ·have:=hall i h
    simp [h1]at this
    simp [h,this]
   ·have:=hL.tail i h (by rw [<-hL.size];exact h1)
    simp [h1]at this
    simp [List.getElem_append,Nat.not_lt.2 h,this]
 have main:∀c (L:Array Bool) (a:Act) (w:World),(List.range n).countP (fun j=> !L.getD j false)=c->j7b l.toArray n ds anc J F a0 L a w->wpAny P .any l.toArray Q (c+(l.toArray.size - n)) L a w:=by
  intro c
  induction c with
  |zero=>
   intro L a w hcnt hI
   have hall:∀i,i<n->L.getD i false=true:=fun i hi=>by
    have:=List.countP_eq_zero.1 hcnt i (List.mem_range.2 hi)
    simpa using this
   obtain⟨v,ha,hJ,hF⟩:=hI.f
   have hL:=hfull L hI.hd hall
   have hLd:(fun k=>L.getD k false)=fun k=>decide (k<n):=by
    funext k
    rcases Nat.lt_or_ge k n with h|h
    ·rw [hall k h,decide_eq_true h]
    ·rw [decide_eq_false (Nat.not_lt.2 h)]
     rcases Nat.lt_or_ge k l.toArray.size with h'|h'
     ·exact getD_both (hI.hd.tail k h h')
     ·have:L.size<=k:=by rw [hI.hd.size];exact h'
      simp [Array.getElem?_eq_none this]
   rw [hLd]at hJ
   have h2:=ht v w hJ (fun k hk=>hF k (hall k hk))
   rw [<-ha]at h2
   rw [Nat.zero_add]
   have hdl:(l.drop n).length=l.toArray.size - n:=by simp
   have:=wpAny_of_seq (md:=.any) (ops:=l.toArray) (Q':=Q) (l.drop n) n L a w (fun j=>by simp [List.getElem?_drop]) (by rw [hdl,hL];exact hsq) h2
   rwa [hdl]at this
  |succ c ih=>
   intro L a w hcnt hI
   have hex:∃i,i<n/\L.getD i false=false:=by
    rcases Classical.em (∃i,i<n/\L.getD i false=false)with h|h
    ·exact h
    ·have:(List.range n).countP (fun j=> !L.getD j false)=0:=List.countP_eq_zero.2 fun j hj hb=>h ⟨j,List.mem_range.1 hj,by simpa using hb⟩
     omega
   obtain⟨i0,hi0,hun0⟩:=hex
   have hP:=hprog L hI.hd i0 hi0 (getD_in (by rw [hI.hd.size];omega) hun0)
   rw [show c+1+(l.toArray.size - n)=(c+(l.toArray.size - n))+1 by omega]
   refine⟨fun h=> ?_,fun i hi=> ?_⟩
   ·obtain⟨j,_,hj⟩:=hP.1
    rw [h]at hj;cases hj
   ·have hin:i<n:=by
     rcases Nat.lt_or_ge i n with h|h
     ·exact h
     ·exact absurd hi (hP.2 i h)
    obtain⟨hun,o,ho,hall⟩:=mem_ready.1 hi
    obtain⟨v,ha,hJ,hF⟩:=hI.f
    obtain⟨h1,h2⟩:=hops i o ho hin
    have hA:=hanc L hI.hd i i iL hin o ho hall
    have hstep:=hs.get i o h1
    rw [Nat.zero_add]at hstep
    rw [ha]
    refine wpOp_step ho fun K hK=>hstep (fun k=>L.getD k false) v w hJ (getD_both hun) (fun k hk=>(hA k hk).2) hF K fun y w' hg' hr' hf'=>hK _ _ (ih _ _ _ ?_ ⟨hI.hd.set hi hin,xU v i y,?_,?_,?_⟩)
    ·have:=ZQ (fun j=> !L.getD j false) (fun j=> !(L.setIfInBounds i true).getD j false) i n hin (fun j hj=>by simp only [getD_set_ne false (Ne.symm hj)]) (by simp only [getD_both hun,Bool.not_false]) (by
      have hls:i<L.size:=by rw [hI.hd.size];omega
      simp [hls])
     omega
    ·rw [<-h2]
     have:=Uu y ds 0 v a0 i hap (by omega)
     rwa [Nat.zero_add]at this
    ·have hls:i<L.size:=by rw [hI.hd.size];omega
     have:(fun k=>(L.setIfInBounds i true).getD k false)=KG (fun k=>L.getD k false) i:=by
      funext k
      unfold KG
      by_cases h:k=i
      ·subst h;simp [hls]
      ·rw [iF h,getD_set_ne false (Ne.symm h)]
     rw [this]
     exact hg'
    ·intro k hl
     by_cases hki:k=i
     ·subst hki;exact hf'
     ·rw [getD_set_ne false (Ne.symm hki)]at hl
      have hk:k<n:=by
       rcases Nat.lt_or_ge k n with h|h
       ·exact h
       ·rcases Nat.lt_or_ge k l.toArray.size with h'|h'
        ·rw [getD_both (hI.hd.tail k h h')]at hl;cases hl
        ·have:L.size<=k:=by rw [hI.hd.size];exact h'
         simp [Array.getElem?_eq_none this]at hl
      have hne:∀m,m∈k :: anc.getD k []->m≠i:=by
       intro m hm he
       subst he
       rcases List.mem_cons.1 hm with h|h
       ·exact hki h.symm
       ·have hsz:k<l.toArray.size:=iZ hk hn
        have:=(hanc L hI.hd k k iL hk _ (Array.getElem?_eq_getElem hsz) (fun e he hb=>hI.hd.closed k _ (Array.getElem?_eq_getElem hsz) hl e he hb) m h).2
        rw [getD_both hun]at this
        cases this
      have hres:Jm (k :: anc.getD k []) (xU v i y)=Jm (k :: anc.getD k []) v:=by
       funext m
       unfold Jm xU
       split
       ·rename_i hm
        rw [iF (hne m hm)]
       ·rfl
      rw [hres]
      exact hst.get k _ _ _ ⟨_,_,hJ⟩ ⟨_,_,hg'⟩ hr' (hF k hl)
 refine wp_region_any hm ?_
 have inv0:HeadInv .any l.toArray n (Array.replicate l.toArray.size false):=
  ⟨by simp,fun j oj _ hl=>(by rw [getD_replicate_false]at hl;cases hl),fun t _ ht=>getD_in (by simpa using ht) (getD_replicate_false _ _)⟩
 have h0:=main n (Array.replicate l.toArray.size false) a0 w.drew (by
  have:(List.range n).countP (fun j=> !(Array.replicate l.toArray.size false).getD j false)=(List.range n).length:=List.countP_eq_length.2 fun j _=>by rw [getD_replicate_false]<;>rfl
  rw [this,List.length_range]) ⟨inv0,fun j=>XO a0 (ds.getD (j - 0) none),(Us ds 0 a0).symm,by simp only [getD_replicate_false];exact hG _,fun k hl=>by rw [getD_replicate_false]at hl;cases hl⟩
 rw [show n+(l.toArray.size - n)=l.toArray.size by omega]at h0
 exact h0
end
inductive Vn (J:(Nat->Bool)->(Nat->Value)->World->Prop) (R:World->World->Prop):Type where
 |v (x:Value):Vn J R
 |q (f:(Nat->Value)->Prop):Vn J R
 |p (f:(Nat->Value)->World->Prop) (h:Vu J R f):Vn J R
section
variable {J:(Nat->Bool)->(Nat->Value)->World->Prop} {R:World->World->Prop}
def xI:Nat->List (Vn J R)->List ((Nat->Value)->World->Prop)
 |_,[]=>[]
 |i,.v x :: l=>(fun v _=>v i=x) :: xI (i+1) l
 |i,.q f :: l=>(fun v _=>f v) :: xI (i+1) l
 |i,.p f _ :: l=>f :: xI (i+1) l
def jP(v:Nat->Value):Nat->List (Vn J R)->List Nat->Prop
 |_,_,[]=>RowKit.Hid True
 |_,[],_ :: _=>RowKit.Hid True
 |i,.v x :: l,k :: a=>if i=k then v i=x/\jP v (i+1) l a else jP v (i+1) l (k :: a)
 |i,.q _ :: l,k :: a=>if i=k then jP v (i+1) l a else jP v (i+1) l (k :: a)
 |i,.p _ _ :: l,k :: a=>if i=k then jP v (i+1) l a else jP v (i+1) l (k :: a)
def jZ(v:Nat->Value):Nat->List (Vn J R)->Prop
 |_,[]=>RowKit.Hid True
 |i,.v x :: l=>v i=x/\jZ v (i+1) l
 |i,.q _ :: l=>jZ v (i+1) l
 |i,.p _ _ :: l=>jZ v (i+1) l
theorem ZS:∀(l:List (Vn J R)) (i:Nat),StabsRG J R (xI i l):=by
 intro l
 induction l with
 |nil=>intro _;trivial
 |cons x l ih=>
  intro i
  cases x with
  |v x=>exact⟨fun _ _ _ _ _ _ h=>h,ih _⟩
  |q f=>exact⟨fun _ _ _ _ _ _ h=>h,ih _⟩
  |p f h=>exact⟨h,ih _⟩
theorem j2f(v:Nat->Value):∀(l:List (Vn J R)) (i:Nat) (a:List Nat),(∀k x,k∈a->i<=k->l[k - i]?=some (.v x)->v k=x)->jP v i l a:=by
 intro l
 induction l with
 |nil=>intro i a _;cases a<;>exact iH trivial
 |cons y l ih=>
  intro i a h
  cases a with
  |nil=>cases y<;>exact iH trivial
  |cons k a=>
   have h1:jP v (i+1) l (k :: a):=ih _ _ fun j x hj hi hx=>h j x hj (by omega) (by
    obtain⟨d,hd⟩:∃d,j - i=d+1:=⟨j - i - 1,by omega⟩
    rw [show j - (i+1)=d by omega]at hx
    rw [hd,List.getElem?_cons_succ];exact hx)
   have h2:jP v (i+1) l a:=ih _ _ fun j x hj hi hx=>h j x (List.mem_cons_of_mem _ hj) (by omega) (by
    obtain⟨d,hd⟩:∃d,j - i=d+1:=⟨j - i - 1,by omega⟩
    rw [show j - (i+1)=d by omega]at hx
    rw [hd,List.getElem?_cons_succ];exact hx)
   have h3:i=k->∀x,y=.v x->v i=x:=fun e x hy=>by subst e;exact h i x List.mem_cons_self iL (by rw [Nat.sub_self,hy]<;>rfl)
   cases y with
   |v x=>unfold jP;split;exact⟨h3 ‹_› x rfl,h2⟩;exact h1
   |q f=>unfold jP;split;exact h2;exact h1
   |p f g=>unfold jP;split;exact h2;exact h1
theorem j22(v:Nat->Value):∀(l:List (Vn J R)) (i:Nat),(∀k x,l[k]?=some (.v x)->v (i+k)=x)->jZ v i l:=by
 intro l
 induction l with
 |nil=>intro i _;exact iH trivial
 |cons y l ih=>
  intro i h
  have h1:jZ v (i+1) l:=ih _ fun k x hx=>by have:=h (k+1) x (by rw [List.getElem?_cons_succ];exact hx);rwa [show i+(k+1)=i+1+k by omega]at this
  cases y with
  |v x=>exact⟨h 0 x rfl,h1⟩
  |q f=>exact h1
  |p f g=>exact h1
theorem YH(v:Nat->Value)(s:Nat->List Nat)(w:World):∀(l:List (Vn J R)) (i k:Nat) (x:Value),l[k]?=some (.v x)->((xI i l).getD k fun _ _=>True) (Jm ((i+k) :: s (i+k)) v) w->v (i+k)=x:=by
 intro l
 induction l with
 |nil=>intro i k x h;simp at h
 |cons y l ih=>
  intro i k x h hf
  cases k with
  |zero=>
   rw [List.getElem?_cons_zero]at h
   injection h with h
   subst h
   simp only [xI,List.getD_cons_zero,Nat.add_zero]at hf
   simpa [Jm]using hf
  |succ k=>
   rw [List.getElem?_cons_succ]at h
   have e:i+(k+1)=i+1+k:=by omega
   rw [e]at hf |-
   apply ih (i+1) k x h
   cases y<;>simpa only [xI,List.getD_cons_succ]using hf
end
section
variable {P:Program} {Q:Exit->Act->World->Prop}
def j6c(P:Program)(ops:Array Oper)(Q:Exit->Act->World->Prop)(ds:List (Option Tmp))(anc:List (List Nat))(J:(Nat->Bool)->(Nat->Value)->World->Prop)(R:World->World->Prop)(T:List (Vn J R))(a0:Act)(i:Nat)(o:Oper):Prop:=
 ∀(L:Nat->Bool) (v:Nat->Value) (w:World),J L v w->L i=false->(∀k,k∈anc.getD i []->((xI 0 T).getD k fun _ _=>True) (Jm (k :: anc.getD k []) v) w)->jP v 0 T (anc.getD i [])->∀K:Act->World->Prop,
  (∀y w',J (KG L i) (xU v i y) w'->R w w'->((xI 0 T).getD i fun _ _=>True) (Jm (i :: anc.getD i []) (xU v i y)) w'->K ((jb ds 0 v a0).put o.dst y) w')->
  if Region.wanted o (yielded ops (jb ds 0 v a0).tmps)=true then Oper.wp P o (jb ds 0 v a0) w K Q else K ((jb ds 0 v a0).put o.dst undef) w
theorem StepsRG.imp{S S':Nat->Oper->Prop}(h:∀i o,S i o->S' i o):∀ {l:List Oper} {i:Nat},StepsRG S l i->StepsRG S' l i:=by
 intro l
 induction l with
 |nil=>intro _ _;trivial
 |cons o l ih=>intro i ⟨h1,h2⟩;exact⟨h _ _ h1,ih h2⟩
theorem j9{id:Nat}{l:List Oper}{a0:Act}{w:World}(n:Nat)(ds:List (Option Tmp))(anc:List (List Nat))(J:(Nat->Bool)->(Nat->Value)->World->Prop)(R:World->World->Prop)(T:List (Vn J R))(hm:P.follows .mixedOrders=true)(hc:ZH l.toArray n ds anc=true)(hn:T.length=n)(hG:∀v,J (fun _=>false) v w.drew)(hs:StepsRG (j6c P l.toArray Q ds anc J R T a0) (l.take n) 0)(ht:∀v w,J (fun k=>decide (k<n)) v w->(∀k,k<n->((xI 0 T).getD k fun _ _=>True) (Jm (k :: anc.getD k []) v) w)->jZ v 0 T->wpList P l.toArray Q (l.drop n) (jb ds 0 v a0) w):
 (Code.region id l.toArray true).wp P Q a0 w:=by
 refine ZA n ds anc J R (xI 0 T) hm hc hG (ZS _ _) (hs.imp fun i o h=> ?_) fun v w hJ hF=>ht v w hJ hF (j22 v T 0 fun k x hx=> ?_)
 ·intro L v w hJ hL hA hF K hK
  refine h L v w hJ hL (fun k hk=>hF k (hA k hk)) (j2f v T 0 _ fun k x hk _ hx=> ?_) K hK
  have:=YH v (fun k=>anc.getD k []) w T 0 k x (by simpa using hx)
  simp only [Nat.zero_add]at this
  exact this (hF k (hA k hk))
 ·have h1:=YH v (fun k=>anc.getD k []) w T 0 k x hx
  have hk:k<n:=by rw [<-hn];exact(List.getElem?_eq_some_iff.1 hx).1
  simp only [Nat.zero_add]at h1 |-
  exact h1 (hF k hk)
end
theorem xu{e:Int}(h: -9223372036854775808<=e/\e<=9223372036854775807):Value.int .i64 (IntKind.i64.wrap e)=.int .i64 e:=by rw [IntWalk.i64_in _ h]
def KD(w:World):Prop:=∀j,j<64->w.cell? ⟨0,j,none⟩=some (W32 (j1y.getD j 0))
theorem KD.below{w w':World}{B:Nat}(h:KD w)(hb:Below B w w')(hB:0<B):KD w':=fun j hj=>(hb.cell (p:=⟨0,j,none⟩) hB).trans (h j hj)
theorem KD.lt{w:World}(h:KD w):0<w.heap.size:=block_lt_of_cell (h 0 (by omega))
theorem j6d(g:Nat)(w:World):(Instr.arrayAt 144 (.slice (some ⟨g,0,none⟩) 8 8)).run Tryz.prog w=.ok (.pointer (some ⟨g,0,none⟩)) w:=by kernel_rfl
theorem j6n(w:World):(Instr.makeSlice 106 (.int .i64 8) (.int .i64 8)).run Tryz.prog w=.ok (.slice (some ⟨w.heap.size,0,none⟩) 8 8) (w.alloc (.cells #[.int .u32 0,.int .u32 0,.int .u32 0,.int .u32 0,.int .u32 0,.int .u32 0,.int .u32 0,.int .u32 0] 113)):=by kernel_rfl
def Xp(n:Nat)(l:List UInt32):Array Value:=((l++List.replicate (n - l.length) 0).map W32).toArray
section
variable{w:World}
include w
theorem qm{g m:Nat}{t:TypeId}{l:List UInt32}{f:Nat×Nat}(h:w.heap[g]?=some (.cells (Xp m l) t f)){j:Nat}(hj:j<l.length):w.cell? ⟨g,j,none⟩=some (W32 (l.getD j 0)):=by
 rw [cell_of_row _ _ _ _ _ _ h]
 simp [Xp,List.getElem?_append,hj]
theorem xW{g m:Nat}{t:TypeId}{l:List UInt32}(hl:l.length<m)(h:w.heap[g]?=some (.cells (Xp m l) t (0,0))):w.cell? ⟨g,l.length,none⟩=some (W32 0)/\w.frozen? ⟨g,l.length,none⟩=false:=by
 refine⟨?_,by simp [World.frozen?,h]⟩
 rw [cell_of_row _ _ _ _ _ _ h]
 obtain⟨n,hn⟩:∃n,m - l.length=n+1:=⟨m - l.length - 1,by omega⟩
 simp [Xp,hn,List.replicate_succ]
theorem xm{g o:Nat}{C:Array Value}{t:TypeId}{f:Nat×Nat}{v:Value}(h:w.heap[g]?=some (.cells C t f)):(w.setCell ⟨g,o,none⟩ v).heap[g]?=some (.cells (C.set! o v) t f):=by
 unfold World.setCell
 simp [Array.getElem?_modify,h]
theorem xV{g m:Nat}{t:TypeId}{l:List UInt32}{x:UInt32}(hl:l.length<m)(h:w.heap[g]?=some (.cells (Xp m l) t (0,0))):(w.setCell ⟨g,l.length,none⟩ (W32 x)).heap[g]?=some (.cells (Xp m (l++ [x])) t (0,0)):=by
 have h2:=xm (o:=l.length) (v:=W32 x) h
 rw [h2]
 have e:(Xp m l).set! l.length (W32 x)=Xp m (l++ [x]):=by
  apply Array.ext'
  simp only [Xp,Array.set!_eq_setIfInBounds,Array.toList_setIfInBounds,List.length_append,List.length_singleton]
  obtain⟨n,hn⟩:∃n,m - l.length=n+1:=⟨m - l.length - 1,by omega⟩
  have hn2:m - (l.length+1)=n:=by omega
  rw [hn,hn2,List.replicate_succ]
  simp
 rw [e]
theorem xH{p:Nat}{a b c d e f g h:Value}{t:TypeId}(hh:w.heap[p]?=some (.cells #[a,b,c,d,e,f,g,h] t (0,0))):
 w.cell? ⟨p,0,none⟩=some a/\w.cell? ⟨p,1,none⟩=some b/\w.cell? ⟨p,2,none⟩=some c/\w.cell? ⟨p,3,none⟩=some d/\w.cell? ⟨p,4,none⟩=some e/\w.cell? ⟨p,5,none⟩=some f/\w.cell? ⟨p,6,none⟩=some g/\w.cell? ⟨p,7,none⟩=some h/\∀o,w.frozen? ⟨p,o,none⟩=false:=by
 have key:∀o v,#[a,b,c,d,e,f,g,h][o]?=some v->w.cell? ⟨p,o,none⟩=some v:=fun o v e=>by rw [cell_of_row _ _ _ _ _ _ hh];exact e
 exact⟨key 0 _ rfl,key 1 _ rfl,key 2 _ rfl,key 3 _ rfl,key 4 _ rfl,key 5 _ rfl,key 6 _ rfl,key 7 _ rfl,fun o=>by simp [World.frozen?,hh]⟩
theorem yh{p:Nat}{s:St8}{t:TypeId}(hh:w.heap[p]?=some (.cells s.cells t (0,0))){j:Nat}(hj:j<8):w.cell? ⟨p,j,none⟩=some (W32 (s.list.getD j 0)):=by
 rw [cell_of_row _ _ _ _ _ _ hh]
 obtain rfl|rfl|rfl|rfl|rfl|rfl|rfl|rfl:j=0\/j=1\/j=2\/j=3\/j=4\/j=5\/j=6\/j=7:=by omega
 all_goals rfl
end
theorem VM(s:St8)(b:List UInt8){t:Nat}(ht:t<8):(zF s b).list.take (t+1)=(zF s b).list.take t++ [s.list.getD t 0+(qt b s 64).list.getD t 0]:=by
 unfold zF
 obtain⟨r,hr⟩:∃r,qt b s 64=r:=⟨_,rfl⟩
 rw [hr]
 obtain rfl|rfl|rfl|rfl|rfl|rfl|rfl|rfl:t=0\/t=1\/t=2\/t=3\/t=4\/t=5\/t=6\/t=7:=by omega
 all_goals rfl
def j8e(w:World)(g:Nat)(x:St8):World:=(((((((w.setCell ⟨g,0,none⟩ (W32 x.a)).setCell ⟨g,1,none⟩ (W32 x.b)).setCell ⟨g,2,none⟩ (W32 x.c)).setCell ⟨g,3,none⟩ (W32 x.d)).setCell ⟨g,4,none⟩ (W32 x.e)).setCell ⟨g,5,none⟩ (W32 x.f)).setCell ⟨g,6,none⟩ (W32 x.g)).setCell ⟨g,7,none⟩ (W32 x.h)
theorem j3s{w:World}{p:Nat}{a b c d e f g h:Value}{t:TypeId}(x:St8)(hh:w.heap[p]?=some (.cells #[a,b,c,d,e,f,g,h] t (0,0))):(j8e w p x).heap[p]?=some (.cells x.cells t (0,0)):=by
 have h1:=xm (o:=0) (v:=W32 x.a) hh
 simp only [Array.set!_eq_setIfInBounds,List.setIfInBounds_toArray,List.set_cons_zero]at h1
 have h2:=xm (o:=1) (v:=W32 x.b) h1
 simp only [Array.set!_eq_setIfInBounds,List.setIfInBounds_toArray,List.set_cons_succ,List.set_cons_zero]at h2
 have h3:=xm (o:=2) (v:=W32 x.c) h2
 simp only [Array.set!_eq_setIfInBounds,List.setIfInBounds_toArray,List.set_cons_succ,List.set_cons_zero]at h3
 have h4:=xm (o:=3) (v:=W32 x.d) h3
 simp only [Array.set!_eq_setIfInBounds,List.setIfInBounds_toArray,List.set_cons_succ,List.set_cons_zero]at h4
 have h5:=xm (o:=4) (v:=W32 x.e) h4
 simp only [Array.set!_eq_setIfInBounds,List.setIfInBounds_toArray,List.set_cons_succ,List.set_cons_zero]at h5
 have h6:=xm (o:=5) (v:=W32 x.f) h5
 simp only [Array.set!_eq_setIfInBounds,List.setIfInBounds_toArray,List.set_cons_succ,List.set_cons_zero]at h6
 have h7:=xm (o:=6) (v:=W32 x.g) h6
 simp only [Array.set!_eq_setIfInBounds,List.setIfInBounds_toArray,List.set_cons_succ,List.set_cons_zero]at h7
 have h8:=xm (o:=7) (v:=W32 x.h) h7
 simp only [Array.set!_eq_setIfInBounds,List.setIfInBounds_toArray,List.set_cons_succ,List.set_cons_zero]at h8
 exact h8
theorem Vc{w w':World}{B g:Nat}{x:St8}(h:Below B w w')(hg:B<=g):Below B w (j8e w' g x):=(((((((h.setCell hg _).setCell hg _).setCell hg _).setCell hg _).setCell hg _).setCell hg _).setCell hg _).setCell hg _
theorem XG(s:St8)(b:List UInt8)(vs vb:Value)(S S':Nat->Prop)(w:World)(hK:KD w)(hs:StS w S vs s)(hb:BsS w S' vb b)(hl:b.length=64):
 Calls Tryz.prog 99 #[vs,vb] w fun e w'=>∃v',e=.returned (.tuple #[v',.int .i64 0])/\StS w' (New w w') v' (zF s b)/\Below w.heap.size w w':=by
 obtain⟨gs,rfl,_,hgs⟩:=hs
 obtain⟨bn,cb,rfl,hbc,hbc2,_,hcell⟩:=hb
 rw [hl]at hbc hcell |-
 obtain⟨bb,bo,rfl,⟨_,hbl⟩,hcell⟩:∃bb bo,bn=some ⟨bb,bo,none⟩/\(S' bb/\bb<w.heap.size)/\∀j,j<64->w.cell? ⟨bb,bo+j,none⟩=some (U8 (gb b j)):=by
  exact m2f
 have HGS:=Lib.hid hgs;have HCB:=Lib.hid hcell;have HK:=Lib.hid hK
 have HM:=j6n
 have HA8:=j6d
 have hgl:=(Array.getElem?_eq_some_iff.1 hgs).1
 obtain⟨w0,hw0⟩:∃w0,w0=w.alloc (.cells #[.int .u32 0,.int .u32 0,.int .u32 0,.int .u32 0,.int .u32 0,.int .u32 0,.int .u32 0,.int .u32 0,.int .u32 0,.int .u32 0,.int .u32 0,.int .u32 0,.int .u32 0,.int .u32 0,.int .u32 0,.int .u32 0,.int .u32 0,.int .u32 0,.int .u32 0,.int .u32 0,.int .u32 0,.int .u32 0,.int .u32 0,.int .u32 0,.int .u32 0,.int .u32 0,.int .u32 0,.int .u32 0,.int .u32 0,.int .u32 0,.int .u32 0,.int .u32 0,.int .u32 0,.int .u32 0,.int .u32 0,.int .u32 0,.int .u32 0,.int .u32 0,.int .u32 0,.int .u32 0,.int .u32 0,.int .u32 0,.int .u32 0,.int .u32 0,.int .u32 0,.int .u32 0,.int .u32 0,.int .u32 0,.int .u32 0,.int .u32 0,.int .u32 0,.int .u32 0,.int .u32 0,.int .u32 0,.int .u32 0,.int .u32 0,.int .u32 0,.int .u32 0,.int .u32 0,.int .u32 0,.int .u32 0,.int .u32 0,.int .u32 0,.int .u32 0] 142):=⟨_,rfl⟩
 have hB0:Below w.heap.size w w0:=by rw [hw0];exact(Below.refl _ _).alloc (Nat.le_refl _) _
 have hh0:w0.heap[w.heap.size]?=some (.cells (Xp 64 []) 142 (0,0)):=by rw [hw0];exact heap_alloc_new _ _
 have HW0:=Lib.hid hw0;have HB0:=Lib.hid hB0;have HH0:=Lib.hid hh0
 clear hgs hcell hK hw0 hB0 hh0
 go_enter Tryz.func99,Tryz.ntmps99
 go_upto_region 5 with fail
 rw [<-HW0.out]
 clear HW0
 go_wp2_with fail
 go_loopg [27] 64 (fun m0 iv wr=>∃t m:Nat,m=m0/\t+m=64/\iv=.int .i64 t/\Hid (wr.heap[w.heap.size]?=some (.cells (Xp 64 (jV b t)) 142 (0,0)))/\Below w.heap.size w wr)
 case atStart=>exact⟨0,64,rfl,rfl,rfl,HH0,HB0.out⟩
 case round=>
  obtain⟨t,m,rfl,htm,rfl,HWB,hbr⟩:=hrel
  by_cases hm0:m=0
  ·subst hm0
   obtain rfl:t=64:=by omega
   clear htm
   obtain⟨wo,rfl⟩:∃wo:World,wo=wr:=⟨_,rfl⟩
   have hgso:=(hbr.block gs hgl).trans HGS.out
   obtain⟨s0,s1,s2,s3,s4,s5,s6,s7,_⟩:=xH hgso
   have HBR:=Lib.hid hbr
   have HSZ:=Lib.hid hbr.size
   clear hbr hgso
   go_upto_region 14 with fail
   obtain⟨w2,hw2⟩:∃w2,w2=wo.alloc (.cells #[W32 s.a,W32 s.b,W32 s.c,W32 s.d,W32 s.e,W32 s.f,W32 s.g,W32 s.h] 144):=⟨_,rfl⟩
   rw [<-hw2]
   have HW2:Hid (w2.heap[wo.heap.size]?=some (.cells (qt b s 0).cells 144 (0,0))/\Below wo.heap.size wo w2):=Lib.hid ⟨by rw [hw2];exact heap_alloc_new _ _,by rw [hw2];exact(Below.refl _ _).alloc (Nat.le_refl _) _⟩
   clear hw2 s0 s1 s2 s3 s4 s5 s6 s7
   go_wp2_with fail
   go_loopg [78] 64 (fun m0 iv wr=>∃t m:Nat,m=m0/\t+m=64/\iv=.int .i64 t/\Hid (wr.heap[wo.heap.size]?=some (.cells (qt b s t).cells 144 (0,0)))/\Below wo.heap.size wo wr)
   case atStart=>exact⟨0,64,rfl,rfl,rfl,HW2.out.1,HW2.out.2⟩
   case round=>
    obtain⟨t,m,rfl,htm,rfl,HVB,hbw⟩:=hrel
    have HBW:=Lib.hid hbw
    clear hbw
    by_cases hm0:m=0
    ·subst hm0
     obtain rfl:t=64:=by omega
     clear htm
     obtain⟨wb,rfl⟩:∃wb:World,wb=wr:=⟨_,rfl⟩
     go_upto_region 23 with fail
     obtain⟨w3,hw3⟩:∃w3,w3=wb.alloc (.cells #[.int .u32 0,.int .u32 0,.int .u32 0,.int .u32 0,.int .u32 0,.int .u32 0,.int .u32 0,.int .u32 0] 113):=⟨_,rfl⟩
     rw [<-hw3]
     have HW3:Hid (w3.heap[wb.heap.size]?=some (.cells (Xp 8 []) 113 (0,0))/\Below wb.heap.size wb w3):=Lib.hid ⟨by rw [hw3];exact heap_alloc_new _ _,by rw [hw3];exact(Below.refl _ _).alloc (Nat.le_refl _) _⟩
     clear hw3
     go_wp2_with fail
     go_loopg [155] 8 (fun m0 iv wr=>∃t m:Nat,m=m0/\t+m=8/\iv=.int .i64 t/\Hid (wr.heap[wb.heap.size]?=some (.cells (Xp 8 ((zF s b).list.take t)) 113 (0,0)))/\Below wb.heap.size wb wr)
     case atStart=>exact⟨0,8,rfl,rfl,rfl,HW3.out.1,HW3.out.2⟩
     case round=>
      obtain⟨t,m,rfl,htm,rfl,HOB,hbo⟩:=hrel
      have HBO:=Lib.hid hbo
      clear hbo
      by_cases hm0:m=0
      ·subst hm0
       obtain rfl:t=8:=by omega
       clear htm
       go_wp2_with fail
       go_ret2
       have hsz:=HBW.out.size
       have hszo:=HSZ.out
       have hlt:=(Array.getElem?_eq_some_iff.1 HOB.out).1
       refine⟨_,rfl,⟨wb.heap.size,rfl,⟨by omega,hlt⟩,HOB.out⟩,HBR.out.trans ((HBW.out.trans (HBO.out.mono hsz)).mono hszo)⟩
      ·obtain⟨m,rfl⟩:∃k,m=k+1:=⟨m - 1,by omega⟩
       have ht8:t<8:=by omega
       have htl:(t:Int)<8:=by omega
       have hbWo:=HBW.out.trans (HBO.out.mono HBW.out.size)
       obtain⟨x,hx⟩:∃x,s.list.getD t 0=x:=⟨_,rfl⟩
       obtain⟨y,hy⟩:∃y,(qt b s 64).list.getD t 0=y:=⟨_,rfl⟩
       have cx:wr.cell? ⟨gs,t,none⟩=some (W32 x):=by
        rw [<-hx]
        exact yh ((hbWo.block gs (Nat.lt_of_lt_of_le hgl HSZ.out)).trans ((HBR.out.block gs hgl).trans HGS.out)) ht8
       have cy:wr.cell? ⟨wo.heap.size,t,none⟩=some (W32 y):=by
        rw [<-hy]
        exact yh ((HBO.out.block wo.heap.size (Array.getElem?_eq_some_iff.1 HVB.out).1).trans HVB.out) ht8
       have HL8:Hid ((zF s b).list.take (t+1)=(zF s b).list.take t++ [x+y]):=Lib.hid (by
        rw [<-hx,<-hy]
        exact VM s b ht8)
       have hlen:((zF s b).list.take t).length=t:=by rw [List.length_take];exact Nat.min_eq_left (Nat.le_of_lt ht8)
       have HLEN:=Lib.hid hlen
       obtain⟨sc,sf⟩:=xW (by rw [hlen];exact ht8) HOB.out
       rw [hlen]at sc sf
       clear hx hy hlen hbWo
       go_upto_region 26 with fail
       refine wp_region_still_tail 11 (by kernel_rfl) (by kernel_rfl) ?_
       simp only [List.take_succ_cons,List.take_zero,List.drop_succ_cons,List.drop_zero]
       repeat(refine wpStill_step (fun K hK=> ?_);go_simp;(refine hK _ ?_;clear hK K))
       refine wpStill_nil ?_
       go_wp2_with fail
       go_roundg m
       case measure=>omega
       case rel=>exact⟨t+1,m,rfl,by omega,by go_num,Lib.hid (by
        rw [HL8.out]
        have h:=xV (w:=wr.drew) (x:=x+y) (by rw [HLEN.out];exact ht8) HOB.out
        rw [HLEN.out]at h
        exact h),(HBO.out.drew).setCell (p:=⟨wb.heap.size,t,none⟩) (Nat.le_refl _) _⟩
    ·obtain⟨m,rfl⟩:∃k,m=k+1:=⟨m - 1,by omega⟩
     have ht64:t<64:=by omega
     have htl:(t:Int)<64:=by omega
     have HT64:=Lib.hid htl
     obtain⟨k,hk⟩:∃k,j1y.getD t 0=k:=⟨_,rfl⟩
     obtain⟨wt,hwt⟩:∃k,(jV b 64).getD t 0=k:=⟨_,rfl⟩
     have HKW:Hid (j1y.getD t 0=k/\(jV b 64).getD t 0=wt):=Lib.hid ⟨hk,hwt⟩
     obtain⟨⟨ra,rb,rc,rd,re,rf,rg,rh⟩,hrs⟩:∃r,qt b s t=r:=⟨_,rfl⟩
     have HRS:=Lib.hid hrs
     rw [hrs]at HVB
     have HV:Hid (∀W,Below wr.heap.size wr W->W.cell? ⟨wo.heap.size,0,none⟩=some (W32 ra)/\W.cell? ⟨wo.heap.size,1,none⟩=some (W32 rb)/\W.cell? ⟨wo.heap.size,2,none⟩=some (W32 rc)/\W.cell? ⟨wo.heap.size,3,none⟩=some (W32 rd)/\W.cell? ⟨wo.heap.size,4,none⟩=some (W32 re)/\W.cell? ⟨wo.heap.size,5,none⟩=some (W32 rf)/\W.cell? ⟨wo.heap.size,6,none⟩=some (W32 rg)/\W.cell? ⟨wo.heap.size,7,none⟩=some (W32 rh)/\W.cell? ⟨0,t,none⟩=some (W32 k)/\W.cell? ⟨w.heap.size,t,none⟩=some (W32 wt)):=Lib.hid (fun W h=>by
      obtain⟨p0,p1,p2,p3,p4,p5,p6,p7,_⟩:=xH ((h.block wo.heap.size (Array.getElem?_eq_some_iff.1 HVB.out).1).trans HVB.out)
      have hbWo:Below wo.heap.size wo W:=HBW.out.trans (h.mono HBW.out.size)
      refine⟨p0,p1,p2,p3,p4,p5,p6,p7,?_,?_⟩
      ·rw [<-hk];exact(HK.out.below (HBR.out.trans (hbWo.mono HSZ.out)) HK.out.lt t ht64)
      ·rw [<-hwt];exact(hbWo.cell (p:=⟨w.heap.size,t,none⟩) (Array.getElem?_eq_some_iff.1 HWB.out).1).trans (qm HWB.out (by rw [jh];exact ht64)))
     obtain⟨p0,_,_,_,p4,_⟩:=HV.out wr (Below.refl _ _)
     clear hk hwt hrs ht64
     go_upto_region 17 with fail
     go_quiet (fail)
     clear p0 p4
     go_upto_region 18 with fail
     refine j9 26 [some 85,some 86,some 87,some 88,some 89,some 90,some 91,some 92,some 93,some 94,some 95,some 96,some 97,some 98,some 99,some 100,some 101,some 102,some 103,some 104,some 105,some 106,some 107,some 108,some 109,some 110] [[],[0],[],[],[],[2,3,4],[0,1,2,3,4,5],[],[],[8],[7,8,9],[],[11],[],[13],[11,12,13,14],[7,8,9,10,11,12,13,14,15],[0,1,2,3,4,5,6,7,8,9,10,11,12,13,14,15,16],[],[18],[18,19],[0,1,2,3,4,5,6,7,8,9,10,11,12,13,14,15,16,17,18,19,20],[],[22],[22,23],[0,1,2,3,4,5,6,7,8,9,10,11,12,13,14,15,16,17,18,19,20,21,22,23,24]]
      (fun _ _ w1=>Below wr.heap.size wr w1) (fun w1 w2=>Below w1.heap.size w1 w2)
      [.v (.pointer (some ⟨wo.heap.size,7,none⟩)),
       .v (W32 rh),
       .v (.func (.func 145) #[] #[]),
       .v (W32 re),
       .p (fun v w1=>∃q,v 4=.slice (some ⟨q,0,none⟩) 3 3/\w1.heap[q]?=some (.cells #[.int .i64 6,.int .i64 11,.int .i64 25] 3 (0,0))) (fun _ _ _ _ _ hr ⟨q,e,h⟩=>⟨q,e,(hr.block q (Array.getElem?_eq_some_iff.1 h).1).trans h⟩),
       .v (W32 (Zk re 6 11 25)),
       .v (W32 (rh+Zk re 6 11 25)),
       .v (W32 re),
       .v (.pointer (some ⟨wo.heap.size,5,none⟩)),
       .v (W32 rf),
       .v (W32 (re &&& rf)),
       .v (W32 re),
       .v (W32 (ofW 4294967295 ^^^ re)),
       .v (.pointer (some ⟨wo.heap.size,6,none⟩)),
       .v (W32 rg),
       .v (W32 ((ofW 4294967295 ^^^ re) &&& rg)),
       .v (W32 ((re &&& rf) ^^^ ((ofW 4294967295 ^^^ re) &&& rg))),
       .v (W32 (rh+Zk re 6 11 25+((re &&& rf) ^^^ ((ofW 4294967295 ^^^ re) &&& rg)))),
       .v (.int .i64 (t:Int)),
       .v (.pointer (some ⟨0,t,none⟩)),
       .v (W32 k),
       .v (W32 (rh+Zk re 6 11 25+((re &&& rf) ^^^ ((ofW 4294967295 ^^^ re) &&& rg))+k)),
       .v (.int .i64 (t:Int)),
       .v (.pointer (some ⟨w.heap.size,t,none⟩)),
       .v (W32 wt),
       .v (W32 (rh+Zk re 6 11 25+((re &&& rf) ^^^ ((ofW 4294967295 ^^^ re) &&& rg))+k+wt))]
      (by kernel_rfl) (by kernel_rfl) rfl (fun _=>(j3 (Below.refl _ _) nq).drew) ?steps ?tail
     case steps=>
      simp only [List.take_succ_cons,List.take_zero]
      repeat' (with_reducible first|exact StepsRG.nil|refine StepsRG.cons ?_ ?_)
      all_goals(intro L v w1 hJ hL hF hD K hK;simp only [jb,Act.put,Nat.zero_add,Nat.reduceAdd,List.setIfInBounds_toArray,List.set_cons_zero,List.set_cons_succ,↓jP,List.getD_cons_zero,List.getD_cons_succ,Nat.reduceEqDiff,↓reduceIte]at hD hK |-)
      all_goals try(obtain⟨p0,p1,p2,p3,p4,p5,p6,p7,pk,pw⟩:=HV.out _ hJ;have h64:(t:Int)<64:=HT64.out;(try simp only [hD]at hK |-);go_simp;refine hK _ _ hJ (Below.refl _ _) ?_;first|exact rfl|exact jf _)
      ·exact mE
      ·simp only [hD]at hK |-
       obtain⟨q,e4,hq⟩:∃q,v 4=_/\_:=hF 4 (by simp)
       simp only [e4]at hK
       go_simp
       refine(X8 re [6,11,25] q w1 (by simp) (by simp) hq).mono ?_
       exact m33
     case tail=>
      intro v w1 hJ hF hD
      simp only [jZ]at hD
      obtain⟨e0,e1,e2,e3,e5,e6,e7,e8,e9,e10,e11,e12,e13,e14,e15,e16,e17,e18,e19,e20,e21,e22,e23,e24,e25, -⟩:=hD
      simp only [List.drop_succ_cons,List.drop_zero,jb,Act.put,Nat.zero_add,Nat.reduceAdd,List.setIfInBounds_toArray,List.set_cons_zero,List.set_cons_succ]
      simp only [e25]
      have H18:=Lib.hid hJ
      clear hJ hF e0 e1 e2 e3 e5 e6 e7 e8 e9 e10 e11 e12 e13 e14 e15 e16 e17 e18 e19 e20 e21 e22 e23 e24 e25
      go_upto_region 19 with fail
      refine j9 20 [some 111,some 112,some 113,some 114,some 115,some 116,some 117,some 118,some 119,some 120,some 121,some 122,some 123,some 124,some 125,some 126,some 127,some 128,some 129,some 130] [[],[],[],[0,1,2],[],[],[5],[4,5,6],[],[],[9],[8,9,10],[4,5,6,7,8,9,10,11],[],[13],[],[15],[13,14,15,16],[4,5,6,7,8,9,10,11,12,13,14,15,16,17],[0,1,2,3,4,5,6,7,8,9,10,11,12,13,14,15,16,17,18]]
       (fun _ _ w1=>Below wr.heap.size wr w1) (fun w1 w2=>Below w1.heap.size w1 w2)
       [.v (.func (.func 145) #[] #[]),
        .v (W32 ra),
        .p (fun v w1=>∃q,v 2=.slice (some ⟨q,0,none⟩) 3 3/\w1.heap[q]?=some (.cells #[.int .i64 2,.int .i64 13,.int .i64 22] 3 (0,0))) (fun _ _ _ _ _ hr ⟨q,e,h⟩=>⟨q,e,(hr.block q (Array.getElem?_eq_some_iff.1 h).1).trans h⟩),
        .v (W32 (Zk ra 2 13 22)),
        .v (W32 ra),
        .v (.pointer (some ⟨wo.heap.size,1,none⟩)),
        .v (W32 rb),
        .v (W32 (ra &&& rb)),
        .v (W32 ra),
        .v (.pointer (some ⟨wo.heap.size,2,none⟩)),
        .v (W32 rc),
        .v (W32 (ra &&& rc)),
        .v (W32 ((ra &&& rb) ^^^ (ra &&& rc))),
        .v (.pointer (some ⟨wo.heap.size,1,none⟩)),
        .v (W32 rb),
        .v (.pointer (some ⟨wo.heap.size,2,none⟩)),
        .v (W32 rc),
        .v (W32 (rb &&& rc)),
        .v (W32 ((ra &&& rb) ^^^ (ra &&& rc) ^^^ (rb &&& rc))),
        .v (W32 (Zk ra 2 13 22+((ra &&& rb) ^^^ (ra &&& rc) ^^^ (rb &&& rc))))]
       (by kernel_rfl) (by kernel_rfl) rfl (fun _=>H18.out.drew) ?steps ?tail
      case steps=>
       simp only [List.take_succ_cons,List.take_zero]
       repeat' (with_reducible first|exact StepsRG.nil|refine StepsRG.cons ?_ ?_)
       all_goals(intro L v w1 hJ hL hF hD K hK;simp only [jb,Act.put,Nat.zero_add,Nat.reduceAdd,List.setIfInBounds_toArray,List.set_cons_zero,List.set_cons_succ,↓jP,List.getD_cons_zero,List.getD_cons_succ,Nat.reduceEqDiff,↓reduceIte]at hD hK |-)
       all_goals try(obtain⟨p0,p1,p2,p3,p4,p5,p6,p7,pk,pw⟩:=HV.out _ hJ;(try simp only [hD]at hK |-);go_simp;refine hK _ _ hJ (Below.refl _ _) ?_;first|exact rfl|exact jf _)
       ·exact mE
       ·simp only [hD]at hK |-
        obtain⟨q,e2,hq⟩:∃q,v 2=_/\_:=hF 2 (by simp)
        simp only [e2]at hK
        go_simp
        refine(X8 ra [2,13,22] q w1 (by simp) (by simp) hq).mono ?_
        exact m33
      case tail=>
       intro v w1 hJ hF hD
       simp only [jZ]at hD
       obtain⟨e0,e1,e3,e4,e5,e6,e7,e8,e9,e10,e11,e12,e13,e14,e15,e16,e17,e18,e19, -⟩:=hD
       simp only [List.drop_succ_cons,List.drop_zero,jb,Act.put,Nat.zero_add,Nat.reduceAdd,List.setIfInBounds_toArray,List.set_cons_zero,List.set_cons_succ]
       simp only [e19]
       have H19:=Lib.hid hJ
       have hv19:=(hJ.block wo.heap.size (Array.getElem?_eq_some_iff.1 HVB.out).1).trans HVB.out
       have HV19:=Lib.hid hv19
       obtain⟨p0,p1,p2,p3,p4,p5,p6,p7,pf⟩:=xH hv19
       have pf0:=pf 0;have pf1:=pf 1;have pf2:=pf 2;have pf3:=pf 3;have pf4:=pf 4;have pf5:=pf 5;have pf6:=pf 6;have pf7:=pf 7
       clear hJ hF hv19 pf
       go_wp2_with fail
       go_roundg m
       case measure=>omega
       case rel=>exact⟨t+1,m,rfl,by omega,by go_num,Lib.hid (by
        rw [qt,HRS.out,HKW.out.1,HKW.out.2]
        exact j3s ⟨rh+Zk re 6 11 25+((re &&& rf) ^^^ ((ofW 4294967295 ^^^ re) &&& rg))+k+wt+(Zk ra 2 13 22+((ra &&& rb) ^^^ (ra &&& rc) ^^^ (rb &&& rc))),ra,rb,rc,rd+(rh+Zk re 6 11 25+((re &&& rf) ^^^ ((ofW 4294967295 ^^^ re) &&& rg))+k+wt),re,rf,rg⟩ HV19.out),Vc (x:=⟨rh+Zk re 6 11 25+((re &&& rf) ^^^ ((ofW 4294967295 ^^^ re) &&& rg))+k+wt+(Zk ra 2 13 22+((ra &&& rb) ^^^ (ra &&& rc) ^^^ (rb &&& rc))),ra,rb,rc,rd+(rh+Zk re 6 11 25+((re &&& rf) ^^^ ((ofW 4294967295 ^^^ re) &&& rg))+k+wt),re,rf,rg⟩) (HBW.out.trans (H19.out.mono HBW.out.size)) (Nat.le_refl _)⟩
  ·obtain⟨m,rfl⟩:∃k,m=k+1:=⟨m - 1,by omega⟩
   have ht64:t<64:=by omega
   have htl:(t:Int)<64:=by omega
   by_cases h16:t<16
   ·have hd16:(t:Int)<16:=by omega
    have hq:∀i,i<4->wr.cell? ⟨bb,bo+4*t+i,none⟩=some (U8 (gb b (4*t+i))):=fun i hi=>by
     rw [Nat.add_assoc]
     exact(hbr.cell (p:=⟨bb,bo+(4*t+i),none⟩) hbl).trans (HCB.out (4*t+i) (by omega))
    have HQ:=Lib.hid (j40 bb (bo+4*t) (64 - 4*t) (cb - 4*t) _ _ _ _ wr (by omega) (hq 0 (by omega)) (hq 1 (by omega)) (hq 2 (by omega)) (hq 3 (by omega)))
    have HNX:Hid (QK b (jV b t)=Vi (gb b (4*t+0)) (gb b (4*t+1)) (gb b (4*t+2)) (gb b (4*t+3))):=Lib.hid (by
     unfold QK;rw [jh,if_pos h16];rfl)
    have h4c:4*t<cb:=by omega
    have h4:(4:Int)*t<=64:=by omega
    obtain⟨sc,sf⟩:=xW (by rw [jh];exact ht64) HWB.out
    rw [jh]at sc sf
    clear hq
    go_wp2_with(go_at_call 147;refine HQ.out.mono ?_;rintro e w5 ⟨rfl,nd,rfl⟩)
    go_roundg m
    case measure=>omega
    case rel=>exact⟨t+1,m,rfl,by omega,by go_num,Lib.hid (by
     have h:=xV (w:=wr.drewN nd) (x:=Vi (gb b (4*t+0)) (gb b (4*t+1)) (gb b (4*t+2)) (gb b (4*t+3))) (by rw [jh];exact ht64) HWB.out
     rw [jh]at h
     rw [jV,HNX.out];exact h),(j3 hbr nd).setCell (p:=⟨w.heap.size,t,none⟩) (Nat.le_refl _) _⟩
   ·obtain⟨t15,q15⟩:∃k,t=k+15:=⟨t - 15,by omega⟩
    obtain⟨t2,q2⟩:∃k,t=k+2:=⟨t - 2,by omega⟩
    obtain⟨t7,q7⟩:∃k,t=k+7:=⟨t - 7,by omega⟩
    obtain⟨t16,q16⟩:∃k,t=k+16:=⟨t - 16,by omega⟩
    have W15:Value.int .i64 (IntKind.i64.wrap ((t:Int) - 15))=.int .i64 (t15:Int):=by rw [IntWalk.i64_in _ (by omega)];congr 1;omega
    have W2:Value.int .i64 (IntKind.i64.wrap ((t:Int) - 2))=.int .i64 (t2:Int):=by rw [IntWalk.i64_in _ (by omega)];congr 1;omega
    have W7:Hid (Value.int .i64 (IntKind.i64.wrap ((t:Int) - 7))=.int .i64 (t7:Int)):=Lib.hid (by rw [IntWalk.i64_in _ (by omega)];congr 1;omega)
    have W16:Hid (Value.int .i64 (IntKind.i64.wrap ((t:Int) - 16))=.int .i64 (t16:Int)):=Lib.hid (by rw [IntWalk.i64_in _ (by omega)];congr 1;omega)
    obtain⟨x,hx⟩:∃x,(jV b t).getD t15 0=x:=⟨_,rfl⟩
    obtain⟨y,hy⟩:∃x,(jV b t).getD t2 0=x:=⟨_,rfl⟩
    obtain⟨z7,hz7⟩:∃x,(jV b t).getD t7 0=x:=⟨_,rfl⟩
    obtain⟨z16,hz16⟩:∃x,(jV b t).getD t16 0=x:=⟨_,rfl⟩
    have c15:=qm HWB.out (j:=t15) (by rw [jh];omega)
    have c2:=qm HWB.out (j:=t2) (by rw [jh];omega)
    have c7:=qm HWB.out (j:=t7) (by rw [jh];omega)
    have c16:=qm HWB.out (j:=t16) (by rw [jh];omega)
    rw [hx]at c15
    rw [hy]at c2
    rw [hz7]at c7
    rw [hz16]at c16
    have hgw:=(Array.getElem?_eq_some_iff.1 HWB.out).1
    have C7:Hid (∀W nd,Below (wr.drewN nd).heap.size (wr.drewN nd) W->W.cell? ⟨w.heap.size,t7,none⟩=some (W32 z7)):=Lib.hid (fun W nd h=>(h.cell (p:=⟨w.heap.size,t7,none⟩) hgw).trans c7)
    have C16:Hid (∀W nd,Below (wr.drewN nd).heap.size (wr.drewN nd) W->W.cell? ⟨w.heap.size,t16,none⟩=some (W32 z16)):=Lib.hid (fun W nd h=>(h.cell (p:=⟨w.heap.size,t16,none⟩) hgw).trans c16)
    have HNX:Hid (QK b (jV b t)=((jU y 17 ^^^ jU y 19) ^^^ (y / ofW 1024))+z7+((jU x 7 ^^^ jU x 18) ^^^ (x / ofW 8))+z16):=Lib.hid (by
     unfold QK
     rw [jh,if_neg h16,show t - 2=t2 by omega,show t - 7=t7 by omega,show t - 15=t15 by omega,show t - 16=t16 by omega,hx,hy,hz7,hz16])
    have H7:Hid (t7<64):=Lib.hid (by omega)
    have H16:Hid (t16<64):=Lib.hid (by omega)
    have h15:t15<64:=by omega
    have h2:t2<64:=by omega
    have hd16:decide ((t:Int)<16)=false:=decide_eq_false (by omega)
    have HBR:=Lib.hid hbr
    clear hx hy hz7 hz16 c7 c16 hgw q15 q2 q7 q16 hbr
    go_upto_region 10 with fail
    go_quiet (fail)
    clear W15 W2 c15 c2
    go_upto_region 11 with fail
    refine j9 26 [some 47,some 48,some 49,some 50,some 51,some 52,some 53,some 54,some 55,some 56,some 57,some 58,some 59,some 60,some 61,some 62,some 63,some 64,some 65,some 66,some 67,some 68,some 69,some 70,some 71,some 72] [[],[],[],[],[1,2,3],[],[5],[1,2,3,4,5,6],[],[8],[8,9],[8,9,10],[1,2,3,4,5,6,7,8,9,10,11],[],[],[],[1,2,3,4,13,14,15],[],[17],[1,2,3,4,13,14,15,16,17,18],[1,2,3,4,5,6,7,8,9,10,11,12,13,14,15,16,17,18,19],[],[21],[21,22],[21,22,23],[1,2,3,4,5,6,7,8,9,10,11,12,13,14,15,16,17,18,19,20,21,22,23,24]]
     (fun _ _ w1=>Below (wr.drewN nq).heap.size (wr.drewN nq) w1) (fun w1 w2=>Below w1.heap.size w1 w2)
     [.v (.int .i64 (t:Int)),
      .v (.func (.func 145) #[] #[]),
      .v (W32 y),
      .p (fun v w1=>∃q,v 3=.slice (some ⟨q,0,none⟩) 2 2/\w1.heap[q]?=some (.cells #[.int .i64 17,.int .i64 19] 3 (0,0))) (fun _ _ _ _ _ hr ⟨q,e,h⟩=>⟨q,e,(hr.block q (Array.getElem?_eq_some_iff.1 h).1).trans h⟩),
      .v (W32 (jU y 17 ^^^ jU y 19)),
      .v (W32 y),
      .v (W32 (y / ofW 1024)),
      .v (W32 ((jU y 17 ^^^ jU y 19) ^^^ (y / ofW 1024))),
      .v (.int .i64 (t:Int)),
      .v (.int .i64 (t7:Int)),
      .v (.pointer (some ⟨w.heap.size,t7,none⟩)),
      .v (W32 z7),
      .v (W32 (((jU y 17 ^^^ jU y 19) ^^^ (y / ofW 1024))+z7)),
      .v (.func (.func 145) #[] #[]),
      .v (W32 x),
      .p (fun v w1=>∃q,v 15=.slice (some ⟨q,0,none⟩) 2 2/\w1.heap[q]?=some (.cells #[.int .i64 7,.int .i64 18] 3 (0,0))) (fun _ _ _ _ _ hr ⟨q,e,h⟩=>⟨q,e,(hr.block q (Array.getElem?_eq_some_iff.1 h).1).trans h⟩),
      .v (W32 (jU x 7 ^^^ jU x 18)),
      .v (W32 x),
      .v (W32 (x / ofW 8)),
      .v (W32 ((jU x 7 ^^^ jU x 18) ^^^ (x / ofW 8))),
      .v (W32 (((jU y 17 ^^^ jU y 19) ^^^ (y / ofW 1024))+z7+((jU x 7 ^^^ jU x 18) ^^^ (x / ofW 8)))),
      .v (.int .i64 (t:Int)),
      .v (.int .i64 (t16:Int)),
      .v (.pointer (some ⟨w.heap.size,t16,none⟩)),
      .v (W32 z16),
      .v (W32 (((jU y 17 ^^^ jU y 19) ^^^ (y / ofW 1024))+z7+((jU x 7 ^^^ jU x 18) ^^^ (x / ofW 8))+z16))]
     (by kernel_rfl) (by kernel_rfl) rfl (fun _=>(Below.refl _ _).drew) ?steps ?tail
    case steps=>
     simp only [List.take_succ_cons,List.take_zero]
     repeat' (with_reducible first|exact StepsRG.nil|refine StepsRG.cons ?_ ?_)
     all_goals(intro L v w1 hJ hL hF hD K hK;simp only [jb,Act.put,Nat.zero_add,Nat.reduceAdd,List.setIfInBounds_toArray,List.set_cons_zero,List.set_cons_succ,↓jP,List.getD_cons_zero,List.getD_cons_succ,Nat.reduceEqDiff,↓reduceIte]at hD hK |-)
     all_goals(first
      |(have W:=W7.out;have h64:(t7:Int)<64:=(by have:=H7.out;omega);have c0:=C7.out _ _ hJ;have W3x:=W16.out;have h644x:(t16:Int)<64:=(by have:=H16.out;omega);have c05x:=C16.out _ _ hJ;(try simp only [hD]at hK |-);go_simp;refine hK _ _ hJ (Below.refl _ _) ?_;first|exact rfl|exact jf _)
      |((try simp only [hD]at hK |-);go_simp;exact hK _ _ (hJ.alloc hJ.size _) ((Below.refl _ _).alloc (Nat.le_refl _) _) ⟨_,rfl,heap_alloc_new _ _⟩)
      |skip)
     ·simp only [hD]at hK |-
      obtain⟨q,e3,hq⟩:∃q,v 3=_/\_:=hF 3 (by simp)
      simp only [e3]at hK
      go_simp
      refine(X8 y [17,19] q w1 (by simp) (by simp) hq).mono ?_
      exact m34
     ·simp only [hD]at hK |-
      obtain⟨q,e15,hq⟩:∃q,v 15=_/\_:=hF 15 (by simp)
      simp only [e15]at hK
      go_simp
      refine(X8 x [7,18] q w1 (by simp) (by simp) hq).mono ?_
      exact m34
    case tail=>
     intro v w1 hJ hF hD
     simp only [jZ]at hD
     obtain⟨e0,e1,e2,e4,e5,e6,e7,e8,e9,e10,e11,e12,e13,e14,e16,e17,e18,e19,e20,e21,e22,e23,e24,e25, -⟩:=hD
     simp only [List.drop_succ_cons,List.drop_zero,jb,Act.put,Nat.zero_add,Nat.reduceAdd,List.setIfInBounds_toArray,List.set_cons_zero,List.set_cons_succ]
     have HJ:=Lib.hid hJ
     have hw2:w1.heap[w.heap.size]?=some (.cells (Xp 64 (jV b t)) 142 (0,0)):=(hJ.block w.heap.size (Array.getElem?_eq_some_iff.1 HWB.out).1).trans HWB.out
     obtain⟨sc,sf⟩:=xW (by rw [jh];exact ht64) hw2
     rw [jh]at sc sf
     have HW2:=Lib.hid hw2
     simp only [e0,e25]
     clear hJ hF hw2
     go_wp2_with fail
     go_roundg m
     case measure=>omega
     case rel=>exact⟨t+1,m,rfl,by omega,by go_num,Lib.hid (by
      have h:=xV (x:=((jU y 17 ^^^ jU y 19) ^^^ (y / ofW 1024))+z7+((jU x 7 ^^^ jU x 18) ^^^ (x / ofW 8))+z16) (by rw [jh];exact ht64) HW2.out
      rw [jh]at h
      rw [jV,HNX.out];exact h),(((j3 HBR.out nq).trans (HJ.out.mono HBR.out.size)).setCell (p:=⟨w.heap.size,t,none⟩) (Nat.le_refl _) _)⟩
def KR(w:World):Prop:=∀j,j<64->w.cell? ⟨1,j,none⟩=some (W32 (j1y.getD j 0))
theorem KR.below{w w':World}{B:Nat}(h:KR w)(hb:Below B w w')(hB:1<B):KR w':=fun j hj=>(hb.cell (p:=⟨1,j,none⟩) hB).trans (h j hj)
theorem KR.lt{w:World}(h:KR w):1<w.heap.size:=block_lt_of_cell (h 0 (by omega))
theorem VQ(w:World):Calls Tryz.prog 104 #[] w fun e w'=>∃v',e=.returned v'/\StS w' (New w w') v' Jg/\Below w.heap.size w w':=by
 go_enter Tryz.func104,Tryz.ntmps104
 exact m1z
theorem qj(x:UInt32)(n:Nat)(z:Int)(w:World)(hz:z=n)(h0:0<n)(h1:n<32):Calls Tryz.prog 148 #[W32 x,.int .u64 z] w fun e w'=>e=.returned (W32 (jU x n))/\w'=w:=by
 subst hz;exact j3m x n w h0 h1
theorem QZ(s:St8)(b:List UInt8)(vs vb:Value)(S S':Nat->Prop)(w:World)(hK:KR w)(hs:StS w S vs s)(hb:BsS w S' vb b)(hl:b.length=64):
 Calls Tryz.prog 105 #[vs,vb] w fun e w'=>∃v',e=.returned (.tuple #[v',.int .i64 0])/\StS w' (New w w') v' (zF s b)/\Below w.heap.size w w':=by
 obtain⟨gs,rfl,_,hgs⟩:=hs
 obtain⟨bn,cb,rfl,hbc,hbc2,_,hcell⟩:=hb
 rw [hl]at hbc hcell |-
 obtain⟨bb,bo,rfl,⟨_,hbl⟩,hcell⟩:∃bb bo,bn=some ⟨bb,bo,none⟩/\(S' bb/\bb<w.heap.size)/\∀j,j<64->w.cell? ⟨bb,bo+j,none⟩=some (U8 (gb b j)):=by
  exact m2f
 have HGS:=Lib.hid hgs;have HCB:=Lib.hid hcell;have HK:=Lib.hid hK
 have hgl:=(Array.getElem?_eq_some_iff.1 hgs).1
 obtain⟨w0,hw0⟩:∃w0,w0=w.alloc (.cells #[.int .u32 0,.int .u32 0,.int .u32 0,.int .u32 0,.int .u32 0,.int .u32 0,.int .u32 0,.int .u32 0,.int .u32 0,.int .u32 0,.int .u32 0,.int .u32 0,.int .u32 0,.int .u32 0,.int .u32 0,.int .u32 0,.int .u32 0,.int .u32 0,.int .u32 0,.int .u32 0,.int .u32 0,.int .u32 0,.int .u32 0,.int .u32 0,.int .u32 0,.int .u32 0,.int .u32 0,.int .u32 0,.int .u32 0,.int .u32 0,.int .u32 0,.int .u32 0,.int .u32 0,.int .u32 0,.int .u32 0,.int .u32 0,.int .u32 0,.int .u32 0,.int .u32 0,.int .u32 0,.int .u32 0,.int .u32 0,.int .u32 0,.int .u32 0,.int .u32 0,.int .u32 0,.int .u32 0,.int .u32 0,.int .u32 0,.int .u32 0,.int .u32 0,.int .u32 0,.int .u32 0,.int .u32 0,.int .u32 0,.int .u32 0,.int .u32 0,.int .u32 0,.int .u32 0,.int .u32 0,.int .u32 0,.int .u32 0,.int .u32 0,.int .u32 0] 142):=⟨_,rfl⟩
 have hB0:Below w.heap.size w w0:=by rw [hw0];exact(Below.refl _ _).alloc (Nat.le_refl _) _
 have hh0:w0.heap[w.heap.size]?=some (.cells (Xp 64 []) 142 (0,0)):=by rw [hw0];exact heap_alloc_new _ _
 have HW0:=Lib.hid hw0;have HB0:=Lib.hid hB0;have HH0:=Lib.hid hh0
 clear hgs hcell hK hw0 hB0 hh0
 go_enter Tryz.func105,Tryz.ntmps105
 go_upto_region 4 with fail
 rw [<-HW0.out]
 clear HW0
 go_wp2_with fail
 go_loopg [7] 16 (fun m0 iv wr=>∃t m:Nat,m=m0/\t+m=16/\iv=.int .i64 t/\Hid (wr.heap[w.heap.size]?=some (.cells (Xp 64 (jV b t)) 142 (0,0)))/\Below w.heap.size w wr)
 case atStart=>exact⟨0,16,rfl,rfl,rfl,HH0.out,HB0.out⟩
 case round=>
  obtain⟨t,m,rfl,htm,rfl,HWB,hbr⟩:=hrel
  by_cases hm0:m=0
  ·subst hm0
   obtain rfl:t=16:=by omega
   clear htm
   obtain⟨wo,rfl⟩:∃wo:World,wo=wr:=⟨_,rfl⟩
   have HBR:=Lib.hid hbr
   clear hbr
   go_wp2_with fail
   go_loopg [8] 48 (fun m0 iv wr=>∃t m:Nat,m=m0/\t+m=64/\16<=t/\iv=.int .i64 t/\Hid (wr.heap[w.heap.size]?=some (.cells (Xp 64 (jV b t)) 142 (0,0)))/\Below w.heap.size w wr)
   case atStart=>exact⟨16,48,rfl,rfl,by omega,rfl,HWB.out,HBR.out⟩
   case round=>
    obtain⟨t,m,rfl,htm,h16,rfl,HWB,hbr⟩:=hrel
    by_cases hm0:m=0
    ·subst hm0
     obtain rfl:t=64:=by omega
     clear htm h16
     obtain⟨wq,rfl⟩:∃wq:World,wq=wr:=⟨_,rfl⟩
     obtain⟨s0,s1,s2,s3,s4,s5,s6,s7,_⟩:=xH ((hbr.block gs hgl).trans HGS.out)
     have HBR:=Lib.hid hbr
     clear hbr
     go_upto_region 13 with fail
     go_quiet (fail)
     clear s0 s1 s2 s3 s4 s5 s6 s7
     go_wp2_with fail
     go_loopg [11,12,13,14,15,16,17,18,19] 64 (fun m0 va vb vc vd ve vf vg vh iv wr=>∃(t m:Nat) (ra rb rc rd re rf rg rh:UInt32),m=m0/\t+m=64/\iv=.int .i64 t/\va=W32 ra/\vb=W32 rb/\vc=W32 rc/\vd=W32 rd/\ve=W32 re/\vf=W32 rf/\vg=W32 rg/\vh=W32 rh/\Hid (qt b s t=⟨ra,rb,rc,rd,re,rf,rg,rh⟩)/\Below wq.heap.size wq wr)
     case atStart=>exact⟨0,64,_,_,_,_,_,_,_,_,rfl,rfl,rfl,rfl,rfl,rfl,rfl,rfl,rfl,rfl,rfl,Lib.hid rfl,j3 (Below.refl _ _) nq⟩
     case round=>
      obtain⟨t,m,ra,rb,rc,rd,re,rf,rg,rh,rfl,htm,rfl,rfl,rfl,rfl,rfl,rfl,rfl,rfl,rfl,HRS,hbz⟩:=hrel
      have HBQ:=Lib.hid hbz
      have HBZ:Hid (Below w.heap.size w wr):=Lib.hid (HBR.out.trans (hbz.mono HBR.out.size))
      clear hbz
      by_cases hm0:m=0
      ·subst hm0
       obtain rfl:t=64:=by omega
       clear htm
       have CS:Hid (∀W,Below wr.heap.size wr W->W.cell? ⟨gs,0,none⟩=some (W32 s.a)/\W.cell? ⟨gs,1,none⟩=some (W32 s.b)/\W.cell? ⟨gs,2,none⟩=some (W32 s.c)/\W.cell? ⟨gs,3,none⟩=some (W32 s.d)/\W.cell? ⟨gs,4,none⟩=some (W32 s.e)/\W.cell? ⟨gs,5,none⟩=some (W32 s.f)/\W.cell? ⟨gs,6,none⟩=some (W32 s.g)/\W.cell? ⟨gs,7,none⟩=some (W32 s.h)/\∀o,W.frozen? ⟨gs,o,none⟩=false):=Lib.hid (fun W h=>xH (((HBZ.out.trans (h.mono HBZ.out.size)).block gs hgl).trans HGS.out))
       go_upto_region 20 with fail
       refine j9 40 [some 197,some 198,some 199,some 200,some 201,some 202,some 203,some 204,some 205,some 206,some 207,some 208,some 209,some 210,some 211,some 212,some 213,some 214,some 215,some 216,some 217,some 218,some 219,some 220,some 221,some 222,some 223,some 224,some 225,some 226,some 227,some 228,some 229,some 230,some 231,some 232,some 233,some 234,some 235,some 236] [[],[0],[0,1],[],[0,1,2,3],[],[5],[5,6],[],[5,6,7,8],[],[10],[10,11],[],[10,11,12,13],[],[15],[15,16],[],[15,16,17,18],[],[20],[20,21],[],[20,21,22,23],[],[25],[25,26],[],[25,26,27,28],[],[30],[30,31],[],[30,31,32,33],[],[35],[35,36],[],[35,36,37,38]]
        (fun _ _ w1=>Below wr.heap.size wr w1) (fun w1 w2=>Below w1.heap.size w1 w2)
        [.v (.slice (some ⟨gs,0,none⟩) 8 8),
         .v (.pointer (some ⟨gs,0,none⟩)),
         .v (W32 s.a),
         .v (W32 ra),
         .v (W32 (s.a+ra)),
         .v (.slice (some ⟨gs,0,none⟩) 8 8),
         .v (.pointer (some ⟨gs,1,none⟩)),
         .v (W32 s.b),
         .v (W32 rb),
         .v (W32 (s.b+rb)),
         .v (.slice (some ⟨gs,0,none⟩) 8 8),
         .v (.pointer (some ⟨gs,2,none⟩)),
         .v (W32 s.c),
         .v (W32 rc),
         .v (W32 (s.c+rc)),
         .v (.slice (some ⟨gs,0,none⟩) 8 8),
         .v (.pointer (some ⟨gs,3,none⟩)),
         .v (W32 s.d),
         .v (W32 rd),
         .v (W32 (s.d+rd)),
         .v (.slice (some ⟨gs,0,none⟩) 8 8),
         .v (.pointer (some ⟨gs,4,none⟩)),
         .v (W32 s.e),
         .v (W32 re),
         .v (W32 (s.e+re)),
         .v (.slice (some ⟨gs,0,none⟩) 8 8),
         .v (.pointer (some ⟨gs,5,none⟩)),
         .v (W32 s.f),
         .v (W32 rf),
         .v (W32 (s.f+rf)),
         .v (.slice (some ⟨gs,0,none⟩) 8 8),
         .v (.pointer (some ⟨gs,6,none⟩)),
         .v (W32 s.g),
         .v (W32 rg),
         .v (W32 (s.g+rg)),
         .v (.slice (some ⟨gs,0,none⟩) 8 8),
         .v (.pointer (some ⟨gs,7,none⟩)),
         .v (W32 s.h),
         .v (W32 rh),
         .v (W32 (s.h+rh))]
        (by kernel_rfl) (by kernel_rfl) rfl (fun _=>(Below.refl _ _).drew) ?steps ?tail
       case steps=>
        simp only [List.take_succ_cons,List.take_zero]
        repeat' (with_reducible first|exact StepsRG.nil|refine StepsRG.cons ?_ ?_)
        all_goals(intro L v w1 hJ hL hF hD K hK;simp only [jb,Act.put,Nat.zero_add,Nat.reduceAdd,List.setIfInBounds_toArray,List.set_cons_zero,List.set_cons_succ,↓jP,List.getD_cons_zero,List.getD_cons_succ,Nat.reduceEqDiff,↓reduceIte]at hD hK |-)
        all_goals try(obtain⟨c0,c1,c2,c3,c4,c5,c6,c7,_⟩:=CS.out _ hJ;(try simp only [hD]at hK |-);go_simp;refine hK _ _ hJ (Below.refl _ _) ?_;first|exact rfl|exact jf _|exact yW _)
       case tail=>
        intro v w1 hJ hF hD
        simp only [jZ]at hD
        obtain⟨e0,e1,e2,e3,e4,e5,e6,e7,e8,e9,e10,e11,e12,e13,e14,e15,e16,e17,e18,e19,e20,e21,e22,e23,e24,e25,e26,e27,e28,e29,e30,e31,e32,e33,e34,e35,e36,e37,e38,e39, -⟩:=hD
        simp only [List.drop_succ_cons,List.drop_zero,jb,Act.put,Nat.zero_add,Nat.reduceAdd,List.setIfInBounds_toArray,List.set_cons_zero,List.set_cons_succ]
        simp only [e4,e9,e14,e19,e24,e29,e34,e39]
        have H20:=Lib.hid hJ
        clear hJ hF
        go_wp2_with fail
        go_ret2
        refine⟨_,rfl,⟨_,rfl,⟨Nat.le_trans HBZ.out.size H20.out.size,by simp⟩,?_⟩,(HBZ.out.trans (H20.out.mono HBZ.out.size)).alloc (Nat.le_trans HBZ.out.size H20.out.size) _⟩
        unfold zF
        rw [HRS.out]
        exact heap_alloc_new _ _
      ·obtain⟨m,rfl⟩:∃k,m=k+1:=⟨m - 1,by omega⟩
       have ht64:t<64:=by omega
       have htl:(t:Int)<64:=by omega
       obtain⟨k,hk⟩:∃k,j1y.getD t 0=k:=⟨_,rfl⟩
       obtain⟨wt,hwt⟩:∃k,(jV b 64).getD t 0=k:=⟨_,rfl⟩
       have CK:Hid (∀W,Below wr.heap.size wr W->W.cell? ⟨1,t,none⟩=some (W32 k)):=Lib.hid (fun W h=>by
        rw [<-hk];exact(HK.out.below (HBZ.out.trans (h.mono HBZ.out.size)) HK.out.lt t ht64))
       have CW:Hid (∀W,Below wr.heap.size wr W->W.cell? ⟨w.heap.size,t,none⟩=some (W32 wt)):=Lib.hid (fun W h=>by
        rw [<-hwt]
        exact((HBQ.out.trans (h.mono HBQ.out.size)).cell (p:=⟨w.heap.size,t,none⟩) (Array.getElem?_eq_some_iff.1 HWB.out).1).trans (qm HWB.out (by rw [jh];exact ht64)))
       have HN:Hid (qt b s (t+1)=j8c ⟨ra,rb,rc,rd,re,rf,rg,rh⟩ k wt):=Lib.hid (by rw [qt,HRS.out,hk,hwt])
       have HT64:=Lib.hid htl
       clear hk hwt
       go_upto_region 17 with fail
       refine j9 27 [some 138,some 139,some 140,some 141,some 142,some 143,some 144,some 145,some 146,some 147,some 148,some 149,some 150,some 151,some 152,some 153,some 154,some 155,some 156,some 157,some 158,some 159,some 160,some 161,some 162,some 163,some 164] [[],[],[1],[],[1,2,3],[1,2,3,4],[],[1,2,3,4,6],[1,2,3,4,5,6,7],[0,1,2,3,4,5,6,7,8],[],[],[10,11],[],[13],[],[13,14,15],[10,11,12,13,14,15,16],[0,1,2,3,4,5,6,7,8,9,10,11,12,13,14,15,16,17],[],[19],[19,20],[0,1,2,3,4,5,6,7,8,9,10,11,12,13,14,15,16,17,18,19,20,21],[],[23],[23,24],[0,1,2,3,4,5,6,7,8,9,10,11,12,13,14,15,16,17,18,19,20,21,22,23,24,25]]
        (fun _ _ w1=>Below wr.heap.size wr w1) (fun w1 w2=>Below w1.heap.size w1 w2)
        [.v (W32 rh),
         .v (W32 re),
         .v (W32 (jU re 6)),
         .v (W32 re),
         .v (W32 (jU re 11)),
         .v (W32 (jU re 6 ^^^ jU re 11)),
         .v (W32 re),
         .v (W32 (jU re 25)),
         .v (W32 (jU re 6 ^^^ jU re 11 ^^^ jU re 25)),
         .v (W32 (rh+(jU re 6 ^^^ jU re 11 ^^^ jU re 25))),
         .v (W32 re),
         .v (W32 rf),
         .v (W32 (re &&& rf)),
         .v (W32 re),
         .v (W32 (ofW 4294967295 ^^^ re)),
         .v (W32 rg),
         .v (W32 ((ofW 4294967295 ^^^ re) &&& rg)),
         .v (W32 ((re &&& rf) ^^^ ((ofW 4294967295 ^^^ re) &&& rg))),
         .v (W32 (rh+(jU re 6 ^^^ jU re 11 ^^^ jU re 25)+((re &&& rf) ^^^ ((ofW 4294967295 ^^^ re) &&& rg)))),
         .v (.int .i64 (t:Int)),
         .v (.pointer (some ⟨1,t,none⟩)),
         .v (W32 k),
         .v (W32 (rh+(jU re 6 ^^^ jU re 11 ^^^ jU re 25)+((re &&& rf) ^^^ ((ofW 4294967295 ^^^ re) &&& rg))+k)),
         .v (.int .i64 (t:Int)),
         .v (.pointer (some ⟨w.heap.size,t,none⟩)),
         .v (W32 wt),
         .v (W32 (rh+(jU re 6 ^^^ jU re 11 ^^^ jU re 25)+((re &&& rf) ^^^ ((ofW 4294967295 ^^^ re) &&& rg))+k+wt))]
        (by kernel_rfl) (by kernel_rfl) rfl (fun _=>(Below.refl _ _).drew) ?steps ?tail
       case steps=>
        simp only [List.take_succ_cons,List.take_zero]
        repeat' (with_reducible first|exact StepsRG.nil|refine StepsRG.cons ?_ ?_)
        all_goals(intro L v w1 hJ hL hF hD K hK;simp only [jb,Act.put,Nat.zero_add,Nat.reduceAdd,List.setIfInBounds_toArray,List.set_cons_zero,List.set_cons_succ,↓jP,List.getD_cons_zero,List.getD_cons_succ,Nat.reduceEqDiff,↓reduceIte]at hD hK |-)
        all_goals try(have h64:(t:Int)<64:=HT64.out;have c0:=CK.out _ hJ;have c02x:=CW.out _ hJ;(try simp only [hD]at hK |-);go_simp;refine hK _ _ hJ (Below.refl _ _) ?_;first|exact rfl|exact jf _|exact yW _)
        ·simp only [hD]at hK |-
         go_simp
         refine(qj re 6 _ _ (by rfl) (by omega) (by omega)).mono ?_
         exact mb
        ·simp only [hD]at hK |-
         go_simp
         refine(qj re 11 _ _ (by rfl) (by omega) (by omega)).mono ?_
         exact mb
        ·simp only [hD]at hK |-
         go_simp
         refine(qj re 25 _ _ (by rfl) (by omega) (by omega)).mono ?_
         exact mb
       case tail=>
        intro v w1 hJ hF hD
        simp only [jZ]at hD
        obtain⟨e0,e1,e2,e3,e4,e5,e6,e7,e8,e9,e10,e11,e12,e13,e14,e15,e16,e17,e18,e19,e20,e21,e22,e23,e24,e25,e26, -⟩:=hD
        simp only [List.drop_succ_cons,List.drop_zero,jb,Act.put,Nat.zero_add,Nat.reduceAdd,List.setIfInBounds_toArray,List.set_cons_zero,List.set_cons_succ]
        simp only [e26]
        have H17:=Lib.hid hJ
        clear hJ hF e0 e1 e2 e3 e4 e5 e6 e7 e8 e9 e10 e11 e12 e13 e14 e15 e16 e17 e18 e19 e20 e21 e22 e23 e24 e25 e26
        go_wp2_with(first
         |(go_at_call 148;refine(qj ra 2 _ _ (by rfl) (by omega) (by omega)).mono ?_;rintro e w5 ⟨rfl,hw5⟩;rw [hw5];clear hw5 w5)
         |(go_at_call 148;refine(qj ra 13 _ _ (by rfl) (by omega) (by omega)).mono ?_;rintro e w5 ⟨rfl,hw5⟩;rw [hw5];clear hw5 w5)
         |(go_at_call 148;refine(qj ra 22 _ _ (by rfl) (by omega) (by omega)).mono ?_;rintro e w5 ⟨rfl,hw5⟩;rw [hw5];clear hw5 w5))
        go_roundg m
        case measure=>omega
        case rel=>exact⟨t+1,m,_,_,_,_,_,_,_,_,rfl,by omega,by go_num,rfl,rfl,rfl,rfl,rfl,rfl,rfl,rfl,HN,HBQ.out.trans (H17.out.mono HBQ.out.size)⟩
    ·obtain⟨m,rfl⟩:∃k,m=k+1:=⟨m - 1,by omega⟩
     have ht64:t<64:=by omega
     have htl:(t:Int)<64:=by omega
     obtain⟨t15,q15⟩:∃k,t=k+15:=⟨t - 15,by omega⟩
     obtain⟨t2,q2⟩:∃k,t=k+2:=⟨t - 2,by omega⟩
     obtain⟨t7,q7⟩:∃k,t=k+7:=⟨t - 7,by omega⟩
     obtain⟨t16,q16⟩:∃k,t=k+16:=⟨t - 16,by omega⟩
     have W15:Value.int .i64 (IntKind.i64.wrap ((t:Int) - 15))=.int .i64 (t15:Int):=by rw [IntWalk.i64_in _ (by omega)];congr 1;omega
     have W2:Value.int .i64 (IntKind.i64.wrap ((t:Int) - 2))=.int .i64 (t2:Int):=by rw [IntWalk.i64_in _ (by omega)];congr 1;omega
     have W7:Hid (Value.int .i64 (IntKind.i64.wrap ((t:Int) - 7))=.int .i64 (t7:Int)):=Lib.hid (by rw [IntWalk.i64_in _ (by omega)];congr 1;omega)
     have W16:Hid (Value.int .i64 (IntKind.i64.wrap ((t:Int) - 16))=.int .i64 (t16:Int)):=Lib.hid (by rw [IntWalk.i64_in _ (by omega)];congr 1;omega)
     obtain⟨x,hx⟩:∃x,(jV b t).getD t15 0=x:=⟨_,rfl⟩
     obtain⟨y,hy⟩:∃x,(jV b t).getD t2 0=x:=⟨_,rfl⟩
     obtain⟨z7,hz7⟩:∃x,(jV b t).getD t7 0=x:=⟨_,rfl⟩
     obtain⟨z16,hz16⟩:∃x,(jV b t).getD t16 0=x:=⟨_,rfl⟩
     have c15:=qm HWB.out (j:=t15) (by rw [jh];omega)
     have c2:=qm HWB.out (j:=t2) (by rw [jh];omega)
     have c7:=qm HWB.out (j:=t7) (by rw [jh];omega)
     have c16:=qm HWB.out (j:=t16) (by rw [jh];omega)
     rw [hx]at c15
     rw [hy]at c2
     rw [hz7]at c7
     rw [hz16]at c16
     have HNX:Hid (QK b (jV b t)=((jU y 17 ^^^ jU y 19) ^^^ (y / ofW 1024))+z7+((jU x 7 ^^^ jU x 18) ^^^ (x / ofW 8))+z16):=Lib.hid (by
      unfold QK
      rw [jh,if_neg (by omega),show t - 2=t2 by omega,show t - 7=t7 by omega,show t - 15=t15 by omega,show t - 16=t16 by omega,hx,hy,hz7,hz16])
     have h15:(t15:Int)<64:=by omega
     have h2:(t2:Int)<64:=by omega
     have H7:Hid ((t7:Int)<64):=Lib.hid (by omega)
     have H16:Hid ((t16:Int)<64):=Lib.hid (by omega)
     have hgw:=(Array.getElem?_eq_some_iff.1 HWB.out).1
     have C7:Hid (∀W,Below wr.heap.size wr W->W.cell? ⟨w.heap.size,t7,none⟩=some (W32 z7)):=Lib.hid (fun W h=>(h.cell (p:=⟨w.heap.size,t7,none⟩) hgw).trans c7)
     have C16:Hid (∀W,Below wr.heap.size wr W->W.cell? ⟨w.heap.size,t16,none⟩=some (W32 z16)):=Lib.hid (fun W h=>(h.cell (p:=⟨w.heap.size,t16,none⟩) hgw).trans c16)
     have HBR:=Lib.hid hbr
     clear hx hy hz7 hz16 q15 q2 q7 q16 hbr c7 c16 hgw
     go_upto_region 11 with fail
     go_quiet (fail)
     clear c15 c2 W15 W2
     go_upto_region 12 with fail
     refine j9 28 [some 81,some 82,some 83,some 84,some 85,some 86,some 87,some 88,some 89,some 90,some 91,some 92,some 93,some 94,some 95,some 96,some 97,some 98,some 99,some 100,some 101,some 102,some 103,some 104,some 105,some 106,some 107,some 108] [[],[],[1],[],[1,2,3],[1,2,3,4],[],[6],[1,2,3,4,5,6,7],[],[9],[9,10],[9,10,11],[1,2,3,4,5,6,7,8,9,10,11,12],[],[1,2,3,4,14],[],[1,2,3,4,14,15,16],[1,2,3,4,14,15,16,17],[],[19],[1,2,3,4,14,15,16,17,18,19,20],[1,2,3,4,5,6,7,8,9,10,11,12,13,14,15,16,17,18,19,20,21],[],[23],[23,24],[23,24,25],[1,2,3,4,5,6,7,8,9,10,11,12,13,14,15,16,17,18,19,20,21,22,23,24,25,26]]
      (fun _ _ w1=>Below wr.heap.size wr w1) (fun w1 w2=>Below w1.heap.size w1 w2)
      [.v (.int .i64 (t:Int)),
       .v (W32 y),
       .v (W32 (jU y 17)),
       .v (W32 y),
       .v (W32 (jU y 19)),
       .v (W32 (jU y 17 ^^^ jU y 19)),
       .v (W32 y),
       .v (W32 (y / ofW 1024)),
       .v (W32 ((jU y 17 ^^^ jU y 19) ^^^ (y / ofW 1024))),
       .v (.int .i64 (t:Int)),
       .v (.int .i64 (t7:Int)),
       .v (.pointer (some ⟨w.heap.size,t7,none⟩)),
       .v (W32 z7),
       .v (W32 (((jU y 17 ^^^ jU y 19) ^^^ (y / ofW 1024))+z7)),
       .v (W32 x),
       .v (W32 (jU x 7)),
       .v (W32 x),
       .v (W32 (jU x 18)),
       .v (W32 (jU x 7 ^^^ jU x 18)),
       .v (W32 x),
       .v (W32 (x / ofW 8)),
       .v (W32 ((jU x 7 ^^^ jU x 18) ^^^ (x / ofW 8))),
       .v (W32 (((jU y 17 ^^^ jU y 19) ^^^ (y / ofW 1024))+z7+((jU x 7 ^^^ jU x 18) ^^^ (x / ofW 8)))),
       .v (.int .i64 (t:Int)),
       .v (.int .i64 (t16:Int)),
       .v (.pointer (some ⟨w.heap.size,t16,none⟩)),
       .v (W32 z16),
       .v (W32 (((jU y 17 ^^^ jU y 19) ^^^ (y / ofW 1024))+z7+((jU x 7 ^^^ jU x 18) ^^^ (x / ofW 8))+z16))]
      (by kernel_rfl) (by kernel_rfl) rfl (fun _=>(j3 (Below.refl _ _) nq).drew) ?steps ?tail
     case steps=>
      simp only [List.take_succ_cons,List.take_zero]
      repeat' (with_reducible first|exact StepsRG.nil|refine StepsRG.cons ?_ ?_)
      all_goals(intro L v w1 hJ hL hF hD K hK;simp only [jb,Act.put,Nat.zero_add,Nat.reduceAdd,List.setIfInBounds_toArray,List.set_cons_zero,List.set_cons_succ,↓jP,List.getD_cons_zero,List.getD_cons_succ,Nat.reduceEqDiff,↓reduceIte]at hD hK |-)
      all_goals try(have W:=W7.out;have h64:(t7:Int)<64:=(by have:=H7.out;omega);have c0:=C7.out _ hJ;have W3x:=W16.out;have h644x:(t16:Int)<64:=(by have:=H16.out;omega);have c05x:=C16.out _ hJ;(try simp only [hD]at hK |-);go_simp;refine hK _ _ hJ (Below.refl _ _) ?_;first|exact rfl|exact jf _|exact yW _)
      ·simp only [hD]at hK |-
       go_simp
       refine(qj y 17 _ _ (by rfl) (by omega) (by omega)).mono ?_
       exact mb
      ·simp only [hD]at hK |-
       go_simp
       refine(qj y 19 _ _ (by rfl) (by omega) (by omega)).mono ?_
       exact mb
      ·simp only [hD]at hK |-
       go_simp
       refine(qj x 7 _ _ (by rfl) (by omega) (by omega)).mono ?_
       exact mb
      ·simp only [hD]at hK |-
       go_simp
       refine(qj x 18 _ _ (by rfl) (by omega) (by omega)).mono ?_
       exact mb
     case tail=>
      intro v w1 hJ hF hD
      simp only [jZ]at hD
      obtain⟨e0,e1,e2,e3,e4,e5,e6,e7,e8,e9,e10,e11,e12,e13,e14,e15,e16,e17,e18,e19,e20,e21,e22,e23,e24,e25,e26,e27, -⟩:=hD
      simp only [List.drop_succ_cons,List.drop_zero,jb,Act.put,Nat.zero_add,Nat.reduceAdd,List.setIfInBounds_toArray,List.set_cons_zero,List.set_cons_succ]
      have HJ:=Lib.hid hJ
      have hw2:w1.heap[w.heap.size]?=some (.cells (Xp 64 (jV b t)) 142 (0,0)):=(hJ.block w.heap.size (Array.getElem?_eq_some_iff.1 HWB.out).1).trans HWB.out
      obtain⟨sc,sf⟩:=xW (by rw [jh];exact ht64) hw2
      rw [jh]at sc sf
      have HW2:=Lib.hid hw2
      simp only [e0,e27]
      clear hJ hF hw2
      go_wp2_with fail
      go_roundg m
      case measure=>omega
      case rel=>exact⟨t+1,m,rfl,by omega,by omega,by go_num,Lib.hid (by
       have h:=xV (x:=((jU y 17 ^^^ jU y 19) ^^^ (y / ofW 1024))+z7+((jU x 7 ^^^ jU x 18) ^^^ (x / ofW 8))+z16) (by rw [jh];exact ht64) HW2.out
       rw [jh]at h
       rw [jV,HNX.out];exact h),(HBR.out.trans (HJ.out.mono HBR.out.size)).setCell (p:=⟨w.heap.size,t,none⟩) (Nat.le_refl _) _⟩
  ·obtain⟨m,rfl⟩:∃k,m=k+1:=⟨m - 1,by omega⟩
   have ht16:t<16:=by omega
   have htl:(t:Int)<16:=by omega
   have hq:∀i,i<4->wr.cell? ⟨bb,bo+(4*t+i),none⟩=some (U8 (gb b (4*t+i))):=fun i hi=>(hbr.cell (p:=⟨bb,bo+(4*t+i),none⟩) hbl).trans (HCB.out (4*t+i) (by omega))
   obtain⟨b0,hb0⟩:∃x,gb b (4*t)=x:=⟨_,rfl⟩
   obtain⟨b1,hb1⟩:∃x,gb b (4*t+1)=x:=⟨_,rfl⟩
   obtain⟨b2,hb2⟩:∃x,gb b (4*t+2)=x:=⟨_,rfl⟩
   obtain⟨b3,hb3⟩:∃x,gb b (4*t+3)=x:=⟨_,rfl⟩
   have hbb:=Nat.lt_of_lt_of_le hbl hbr.size
   have C0:Hid (∀W,Below wr.heap.size wr W->W.cell? ⟨bb,bo+4*t,none⟩=some (U8 b0)):=Lib.hid (fun W h=>by rw [<-hb0];exact(h.cell (p:=⟨bb,bo+4*t,none⟩) hbb).trans (hq 0 (by omega)))
   have C1:Hid (∀W,Below wr.heap.size wr W->W.cell? ⟨bb,bo+(4*t+1),none⟩=some (U8 b1)):=Lib.hid (fun W h=>by rw [<-hb1];exact(h.cell (p:=⟨bb,bo+(4*t+1),none⟩) hbb).trans (hq 1 (by omega)))
   have C2:Hid (∀W,Below wr.heap.size wr W->W.cell? ⟨bb,bo+(4*t+2),none⟩=some (U8 b2)):=Lib.hid (fun W h=>by rw [<-hb2];exact(h.cell (p:=⟨bb,bo+(4*t+2),none⟩) hbb).trans (hq 2 (by omega)))
   have C3:Hid (∀W,Below wr.heap.size wr W->W.cell? ⟨bb,bo+(4*t+3),none⟩=some (U8 b3)):=Lib.hid (fun W h=>by rw [<-hb3];exact(h.cell (p:=⟨bb,bo+(4*t+3),none⟩) hbb).trans (hq 3 (by omega)))
   have HNX:Hid (QK b (jV b t)=Vi b0 b1 b2 b3):=Lib.hid (by
    unfold QK;rw [jh,if_pos ht16,<-hb0,<-hb1,<-hb2,<-hb3];rfl)
   have HT:=Lib.hid htl
   have ht64:t<64:=by omega
   have ut:(t:Int)<64:=by omega
   have HBR:=Lib.hid hbr
   clear hq hbr hb0 hb1 hb2 hb3 hbb
   go_upto_region 7 with fail
   refine j9 34 [some 34,some 35,some 36,some 37,some 38,some 39,some 40,some 41,some 42,some 43,some 44,some 45,some 46,some 47,some 48,some 49,some 50,some 51,some 52,some 53,some 54,some 55,some 56,some 57,some 58,some 59,some 60,some 61,some 62,some 63,some 64,some 65,some 66,some 67] [[],[],[],[2],[1,2,3],[1,2,3,4],[1,2,3,4,5],[1,2,3,4,5,6],[],[],[9],[9,10],[8,9,10,11],[8,9,10,11,12],[8,9,10,11,12,13],[8,9,10,11,12,13,14],[1,2,3,4,5,6,7,8,9,10,11,12,13,14,15],[],[],[18],[18,19],[17,18,19,20],[17,18,19,20,21],[17,18,19,20,21,22],[17,18,19,20,21,22,23],[1,2,3,4,5,6,7,8,9,10,11,12,13,14,15,16,17,18,19,20,21,22,23,24],[],[],[27],[27,28],[26,27,28,29],[26,27,28,29,30],[26,27,28,29,30,31],[1,2,3,4,5,6,7,8,9,10,11,12,13,14,15,16,17,18,19,20,21,22,23,24,25,26,27,28,29,30,31,32]]
    (fun _ _ w1=>Below wr.heap.size wr w1) (fun w1 w2=>Below w1.heap.size w1 w2)
    [.v (.int .i64 (t:Int)),
     .v (.slice (some ⟨bb,bo,none⟩) 64 cb),
     .v (.int .i64 (t:Int)),
     .v (.int .i64 (4*(t:Int))),
     .v (.pointer (some ⟨bb,bo+4*t,none⟩)),
     .v (U8 b0),
     .v (W32 (ofW (bv b0))),
     .v (W32 (ofW (wv (ofW (bv b0))*16777216))),
     .v (.slice (some ⟨bb,bo,none⟩) 64 cb),
     .v (.int .i64 (t:Int)),
     .v (.int .i64 (4*(t:Int))),
     .v (.int .i64 (4*(t:Int)+1)),
     .v (.pointer (some ⟨bb,bo+(4*t+1),none⟩)),
     .v (U8 b1),
     .v (W32 (ofW (bv b1))),
     .v (W32 (ofW (wv (ofW (bv b1))*65536))),
     .v (W32 (ofW (wv (ofW (bv b0))*16777216) ||| ofW (wv (ofW (bv b1))*65536))),
     .v (.slice (some ⟨bb,bo,none⟩) 64 cb),
     .v (.int .i64 (t:Int)),
     .v (.int .i64 (4*(t:Int))),
     .v (.int .i64 (4*(t:Int)+2)),
     .v (.pointer (some ⟨bb,bo+(4*t+2),none⟩)),
     .v (U8 b2),
     .v (W32 (ofW (bv b2))),
     .v (W32 (ofW (wv (ofW (bv b2))*256))),
     .v (W32 (ofW (wv (ofW (bv b0))*16777216) ||| ofW (wv (ofW (bv b1))*65536) ||| ofW (wv (ofW (bv b2))*256))),
     .v (.slice (some ⟨bb,bo,none⟩) 64 cb),
     .v (.int .i64 (t:Int)),
     .v (.int .i64 (4*(t:Int))),
     .v (.int .i64 (4*(t:Int)+3)),
     .v (.pointer (some ⟨bb,bo+(4*t+3),none⟩)),
     .v (U8 b3),
     .v (W32 (ofW (bv b3))),
     .v (W32 (ofW (wv (ofW (bv b0))*16777216) ||| ofW (wv (ofW (bv b1))*65536) ||| ofW (wv (ofW (bv b2))*256) ||| ofW (bv b3)))]
    (by kernel_rfl) (by kernel_rfl) rfl (fun _=>(Below.refl _ _).drew) ?steps ?tail
   case steps=>
    simp only [List.take_succ_cons,List.take_zero]
    repeat' (with_reducible first|exact StepsRG.nil|refine StepsRG.cons ?_ ?_)
    all_goals(intro L v w1 hJ hL hF hD K hK;simp only [jb,Act.put,Nat.zero_add,Nat.reduceAdd,List.setIfInBounds_toArray,List.set_cons_zero,List.set_cons_succ,↓jP,List.getD_cons_zero,List.getD_cons_succ,Nat.reduceEqDiff,↓reduceIte]at hD hK |-)
    all_goals try(have u0:0<=4*(t:Int):=(by have:=HT.out;omega);have u1:4*(t:Int)<64:=(by have:=HT.out;omega);have c0:=C0.out _ hJ;have u03x:0<=4*(t:Int)+1:=(by have:=HT.out;omega);have u14x:4*(t:Int)+1<64:=(by have:=HT.out;omega);have c05x:=C1.out _ hJ;have u06x:0<=4*(t:Int)+2:=(by have:=HT.out;omega);have u17x:4*(t:Int)+2<64:=(by have:=HT.out;omega);have c08x:=C2.out _ hJ;have u09x:0<=4*(t:Int)+3:=(by have:=HT.out;omega);have u110x:4*(t:Int)+3<64:=(by have:=HT.out;omega);have c011x:=C3.out _ hJ;(try simp only [hD]at hK |-);go_simp;refine hK _ _ hJ (Below.refl _ _) ?_;first|exact rfl|exact jf _|exact yW _|exact xu (by have:=HT.out;omega))
   case tail=>
    intro v w1 hJ hF hD
    simp only [jZ]at hD
    obtain⟨e0,e1,e2,e3,e4,e5,e6,e7,e8,e9,e10,e11,e12,e13,e14,e15,e16,e17,e18,e19,e20,e21,e22,e23,e24,e25,e26,e27,e28,e29,e30,e31,e32,e33, -⟩:=hD
    simp only [List.drop_succ_cons,List.drop_zero,jb,Act.put,Nat.zero_add,Nat.reduceAdd,List.setIfInBounds_toArray,List.set_cons_zero,List.set_cons_succ]
    have HJ:=Lib.hid hJ
    have hw2:w1.heap[w.heap.size]?=some (.cells (Xp 64 (jV b t)) 142 (0,0)):=(hJ.block w.heap.size (Array.getElem?_eq_some_iff.1 HWB.out).1).trans HWB.out
    obtain⟨sc,sf⟩:=xW (by rw [jh];exact ht64) hw2
    rw [jh]at sc sf
    have HW2:=Lib.hid hw2
    simp only [e0,e33]
    clear hJ hF hw2
    go_wp2_with fail
    go_roundg m
    case measure=>omega
    case rel=>exact⟨t+1,m,rfl,by omega,by go_num,Lib.hid (by
     have h:=xV (x:=Vi b0 b1 b2 b3) (by rw [jh];exact ht64) HW2.out
     rw [jh]at h
     rw [jV,HNX.out];exact h),(HBR.out.trans (HJ.out.mono HBR.out.size)).setCell (p:=⟨w.heap.size,t,none⟩) (Nat.le_refl _) _⟩
end Go.Proofs.YtalmmiojbmpmiaaGreatDoor
