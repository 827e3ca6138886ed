/- A region that draws its order, by what each operation leaves behind: one walk, whatever the order; no program is named here -/
import Derived.RegionTactic
import Derived.StillTailTactics
import Derived.Test.YtalmmiojbmpmiaaGreatDoorChecked
import Derived.Test.YtalmmiojbmpmiaaGreatDoorPa
set_option linter.all false
namespace Go.Proofs.YtalmmiojbmpmiaaGreatDoor
def jb:List (Option Tmp)->Nat->(Nat->Value)->Act->Act
 |[],_,_,a=>a
 |d :: ds,k,v,a=>jb ds (k+1) v (a.put d (v k))
def xQ(v:Nat->Value)(i:Nat)(y:Value):Nat->Value:=fun k=>if k=i then y else v k
def Km(L:Nat->Bool)(i:Nat):Nat->Bool:=fun k=>if k=i then true else L k
def J0(s:List Nat)(v:Nat->Value):Nat->Value:=fun k=>if k∈s then v k else undef
def Xz(a:Act):Option Tmp->Value
 |some d=>a.tmps.getD d undef
 |none=>undef
theorem Act.put_get(a:Act)(d:Option Tmp):a.put d (Xz a d)=a:=by
 cases d with
 |none=>rfl
 |some d=>
  obtain⟨t,de⟩:=a
  simp only [Act.put,Xz]
  congr 1
  apply Array.ext
  ·simp
  ·intro i h1 h2
   by_cases h:d=i
   ·subst h;simp [h2]
   ·rw [Array.getElem_setIfInBounds_ne _ h]
theorem Act.put_put(a:Act)(d:Option Tmp)(u v:Value):(a.put d u).put d v=a.put d v:=by
 cases d with
 |none=>rfl
 |some d=>
  obtain⟨t,de⟩:=a
  simp only [Act.put]
  congr 1
  apply Array.ext
  ·simp
  ·intro i h1 h2
   by_cases h:d=i
   ·subst h;simp
   ·simp
theorem Uq:∀(ds:List (Option Tmp)) (k:Nat) (a:Act),jb ds k (fun j=>Xz a (ds.getD (j - k) none)) a=a:=by
 intro ds
 induction ds with
 |nil=>intros;rfl
 |cons d ds ih=>
  intro k a
  unfold jb
  simp only [Nat.sub_self,List.getD_cons_zero]
  rw [Act.put_get]
  have:∀(b:Act),jb ds (k+1) (fun j=>Xz a ((d :: ds).getD (j - k) none)) b=jb ds (k+1) (fun j=>Xz a (ds.getD (j - (k+1)) none)) b:=by
   suffices h:∀(l:List (Option Tmp)) (m:Nat),k<m->∀b,jb l m (fun j=>Xz a ((d :: ds).getD (j - k) none)) b=jb l m (fun j=>Xz a (ds.getD (j - (k+1)) none)) b from h ds (k+1) (by omega)
   intro l
   induction l with
   |nil=>intros;rfl
   |cons e l ihl=>
    intro m hm b
    unfold jb
    rw [ihl (m+1) (by omega)]
    obtain⟨q,hq⟩:∃q,m - k=q+1:=⟨m - k - 1,by omega⟩
    have hq':m - (k+1)=q:=by omega
    simp only [hq,hq',List.getD_cons_succ]
  rw [this,ih]
def zt:List (Option Tmp)->Bool
 |[]=>true
 |none :: ds=>zt ds
 |some d :: ds=> !ds.contains (some d)&&zt ds
theorem Ur(x:Option Tmp)(y:Value):∀(ds:List (Option Tmp)) (k:Nat) (v:Nat->Value) (a:Act),(∀d,x=some d->some d ∉ ds)->(jb ds k v a).put x y=jb ds k v (a.put x y):=by
 intro ds
 induction ds with
 |nil=>intros;rfl
 |cons d ds ih=>
  intro k v a h
  unfold jb
  rw [ih _ _ _ (fun e he hm=>h e he (List.mem_cons_of_mem _ hm)),Act.put_comm a (v k) y (fun e he hx=>h e hx (he▸List.mem_cons_self))]
theorem Xv:∀(ds:List (Option Tmp)) (k:Nat) (v u:Nat->Value) (a:Act),(∀j,k<=j->v j=u j)->jb ds k v a=jb ds k u a:=by
 intro ds
 induction ds with
 |nil=>intros;rfl
 |cons d ds ih=>intro k v u a h;unfold jb;rw [h k iL,ih _ v u _ (fun j hj=>h j (by omega))]
theorem Us(y:Value):∀(ds:List (Option Tmp)) (k:Nat) (v:Nat->Value) (a:Act) (i:Nat),zt ds=true->i<ds.length->
 (jb ds k v a).put (ds.getD i none) y=jb ds k (xQ v (k+i) y) a:=by
 intro ds
 induction ds with
 |nil=>intro k v a i _ h;cases h
 |cons d ds ih=>
  intro k v a i hap hi
  have hap2:zt ds=true:=by
   cases d with
   |none=>exact hap
   |some d=>simp only [zt,Bool.and_eq_true]at hap;exact hap.2
  have hd:∀e,d=some e->some e ∉ ds:=by
   intro e he;subst he
   simp only [zt,Bool.and_eq_true,Bool.not_eq_true',List.contains_eq_mem,decide_eq_false_iff_not]at hap
   exact hap.1
  cases i with
  |zero=>
   simp only [List.getD_cons_zero,Nat.add_zero]
   show(jb ds (k+1) v (a.put d (v k))).put d y=jb ds (k+1) (xQ v k y) (a.put d (xQ v k y k))
   rw [Ur d y ds _ _ _ hd,Act.put_put,Xv ds (k+1) v (xQ v k y) _ (fun j hj=>by simp only [xQ];rw [iF (by omega)])]
   simp [xQ]
  |succ i=>
   simp only [List.getD_cons_succ]
   show(jb ds (k+1) v (a.put d (v k))).put _ y=jb ds (k+1) (xQ v (k+(i+1)) y) (a.put d (xQ v (k+(i+1)) y k))
   rw [ih (k+1) v _ i hap2 (by simpa using hi)]
   have e1:xQ v (k+(i+1)) y k=v k:=by simp only [xQ];rw [iF (by omega)]
   rw [e1,show k+1+i=k+(i+1)by omega]
section
variable {P:Program} {Q:Exit->Act->World->Prop}
def j6a(P:Program)(ops:Array Oper)(Q:Exit->Act->World->Prop)(ds:List (Option Tmp))(anc:List (List Nat))(J:(Nat->Bool)->(Nat->Value)->World->Prop)(R:World->World->Prop)(F:List ((Nat->Value)->World->Prop))(a0:Act)(i:Nat)(o:Oper):Prop:=
 ∀(L:Nat->Bool) (v:Nat->Value) (w:World),J L v w->L i=false->(∀k,k∈anc.getD i []->L k=true)->(∀k,L k=true->(F.getD k fun _ _=>True) (J0 (k :: anc.getD k []) v) w)->∀K:Act->World->Prop,
  (∀y w',J (Km L i) (xQ v i y) w'->R w w'->(F.getD i fun _ _=>True) (J0 (i :: anc.getD i []) (xQ v i y)) w'->K ((jb ds 0 v a0).put o.dst y) w')->
  if Region.wanted o (yielded ops (jb ds 0 v a0).tmps)=true then Oper.wp P o (jb ds 0 v a0) w K Q else K ((jb ds 0 v a0).put o.dst undef) w
def StepsRG(S:Nat->Oper->Prop):List Oper->Nat->Prop
 |[],_=>True
 |o :: l,i=>S i o/\StepsRG S l (i+1)
section
variable{S:Nat->Oper->Prop}
include S
theorem StepsRG.cons{o:Oper}{l:List Oper}{i:Nat}(h:S i o)(hs:StepsRG S l (i+1)):StepsRG S (o :: l) i:=⟨h,hs⟩
theorem StepsRG.nil{i:Nat}:StepsRG S [] i:=trivial
theorem StepsRG.get:∀ {l:List Oper} {k:Nat},StepsRG S l k->∀i o,l[i]?=some o->S (k+i) o:=by
 intro l
 induction l with
 |nil=>intro k _ i o h;simp at h
 |cons x l ih=>
  intro k h i o ho
  cases i with
  |zero=>simp at ho;subst ho;exact h.1
  |succ i=>have:=ih h.2 i o (by simpa using ho);rwa [show k+1+i=k+(i+1)by omega]at this
end
def Vj(J:(Nat->Bool)->(Nat->Value)->World->Prop)(R:World->World->Prop)(f:(Nat->Value)->World->Prop):Prop:=∀v w w',(∃L u,J L u w)->(∃L u,J L u w')->R w w'->f v w->f v w'
def StabsRG(J:(Nat->Bool)->(Nat->Value)->World->Prop)(R:World->World->Prop):List ((Nat->Value)->World->Prop)->Prop
 |[]=>True
 |f :: l=>Vj J R f/\StabsRG J R l
theorem StabsRG.get{J:(Nat->Bool)->(Nat->Value)->World->Prop}{R:World->World->Prop}:∀ {l:List ((Nat->Value)->World->Prop)},StabsRG J R l->∀i,Vj J R (l.getD i fun _ _=>True):=by
 intro l
 induction l with
 |nil=>intro _ i v w w' _ _ _ _;simp
 |cons x l ih=>
  intro h i
  cases i with
  |zero=>exact h.1
  |succ i=>exact ih h.2 i
def Zu(ops:Array Oper)(n:Nat)(ds:List (Option Tmp))(anc:List (List Nat)):Bool:=
 decide (n<=ops.size)&&decide (ds=(ops.toList.take n).map (·.dst))&&zt ds&&
 ((List.range n).all fun i=>match ops[i]? with
   |some o=>(o.after.all fun e=> !Region.binds .any e||decide (e.on<i))&&(anc.getD i []).all fun k=>o.after.any fun e=>Region.binds .any e&&(e.on==k||(anc.getD e.on []).contains k)
   |none=>false)&&
 (decide (n=ops.size)||(Region.sinkB .any ops n&&Region.chainB .any ops n))&&
 Region.seqB .any ops (ops.size - n) n ((List.replicate n true++List.replicate (ops.size - n) false).toArray)
theorem ZD(p q:Nat->Bool)(i:Nat):∀n,i<n->(∀j,j≠i->q j=p j)->p i=true->q i=false->(List.range n).countP q+1=(List.range n).countP p:=by
 intro n
 induction n with
 |zero=>intro h;cases h
 |succ n ih=>
  intro hi hj hp hq
  rw [List.range_succ,List.countP_append,List.countP_append]
  by_cases h:i=n
  ·subst h
   have:(List.range i).countP q=(List.range i).countP p:=List.countP_congr fun x hx=>by rw [hj x (by have:=List.mem_range.1 hx;omega)]
   simp [hp,hq,this]
  ·have:=ih (by omega) hj hp hq
   simp only [List.countP_cons,List.countP_nil,hj n (Ne.symm h)]
   omega
structure j7a (ops:Array Oper) (n:Nat) (ds:List (Option Tmp)) (anc:List (List Nat)) (J:(Nat->Bool)->(Nat->Value)->World->Prop) (F:List ((Nat->Value)->World->Prop)) (a0:Act) (L:Array Bool) (a:Act) (w:World):Prop where
 hd:HeadInv .any ops n L
 f:∃v,a=jb ds 0 v a0/\J (fun k=>L.getD k false) v w/\∀k,L.getD k false=true->(F.getD k fun _ _=>True) (J0 (k :: anc.getD k []) v) w
theorem Zm{id:Nat}{l:List Oper}{a0:Act}{w:World}(n:Nat)(ds:List (Option Tmp))(anc:List (List Nat))(J:(Nat->Bool)->(Nat->Value)->World->Prop)(R:World->World->Prop)(F:List ((Nat->Value)->World->Prop))(hm:P.follows .mixedOrders=true)(hc:Zu l.toArray n ds anc=true)(hG:∀v,J (fun _=>false) v w.drew)(hst:StabsRG J R F)(hs:StepsRG (j6a P l.toArray Q ds anc J R F a0) (l.take n) 0)(ht:∀v w,J (fun k=>decide (k<n)) v w->(∀k,k<n->(F.getD k fun _ _=>True) (J0 (k :: anc.getD k []) v) w)->wpList P l.toArray Q (l.drop n) (jb ds 0 v a0) w):
 (Code.region id l.toArray true).wp P Q a0 w:=by
 simp only [Zu,Bool.and_eq_true,decide_eq_true_eq,Bool.or_eq_true]at hc
 obtain⟨⟨⟨⟨⟨hn,hds⟩,hap⟩,hed⟩,htl⟩,hsq⟩:=hc
 have hn':n<=l.length:=by simpa using hn
 have hlen:ds.length=n:=by rw [hds];simp;omega
 have hops:∀i (o:Oper),l.toArray[i]?=some o->i<n->(l.take n)[i]?=some o/\ds.getD i none=o.dst:=by
  intro i o ho hi
  have h1:(l.take n)[i]?=some o:=by rw [List.getElem?_take];simp only [hi,if_true];simpa using ho
  refine⟨h1,?_⟩
  rw [hds]
  have h2:(l.take n)[i]?=some o:=h1
  simp only [List.getD_eq_getElem?_getD,List.getElem?_map]
  rw [show(l.toArray.toList.take n)[i]?=some o from h2]
  rfl
 have hedge:∀i o,l.toArray[i]?=some o->i<n->(∀e∈o.after,Region.binds .any e=true->e.on<i)/\∀k,k∈anc.getD i []->∃e∈o.after,Region.binds .any e=true/\(e.on=k\/k∈anc.getD e.on []):=by
  intro i o ho hi
  have h:=List.all_eq_true.1 hed i (List.mem_range.2 hi)
  simp only [ho,Bool.and_eq_true]at h
  refine⟨fun e he hb=> ?_,fun k hk=> ?_⟩
  ·have:=Array.all_eq_true_iff_forall_mem.1 h.1 e he
   simpa [hb]using this
  ·have:=List.all_eq_true.1 h.2 k hk
   obtain⟨e,he,hb⟩:=Array.any_eq_true'.1 this
   simp only [Bool.and_eq_true,Bool.or_eq_true,beq_iff_eq,List.contains_eq_mem,decide_eq_true_eq]at hb
   exact⟨e,he,hb.1,hb.2⟩
 have hanc:∀(L:Array Bool),HeadInv .any l.toArray n L->∀i,∀j,j<=i->j<n->∀o,l.toArray[j]?=some o->(∀e∈o.after,Region.binds .any e=true->L.getD e.on false=true)->∀k,k∈anc.getD j []->k<n/\L.getD k false=true:=by
  intro L hL i
  induction i with
  |zero=>
   intro j hj hjn o ho hall k hk
   obtain⟨e,he,hb,_⟩:=(hedge j o ho hjn).2 k hk
   have:=(hedge j o ho hjn).1 e he hb
   omega
  |succ i ih=>
   intro j hj hjn o ho hall k hk
   obtain⟨e,he,hb,hek⟩:=(hedge j o ho hjn).2 k hk
   have hlt:=(hedge j o ho hjn).1 e he hb
   rcases hek with rfl|hek
   ·exact⟨by omega,hall e he hb⟩
   ·have hsz:e.on<l.toArray.size:=iZ (Nat.lt_trans hlt hjn) hn
    exact ih e.on (by omega) (by omega) _ (Array.getElem?_eq_getElem hsz) (fun e' he' hb'=>hL.closed e.on _ (Array.getElem?_eq_getElem hsz) (hall e he hb) e' he' hb') k hek
 have hprog:∀(L:Array Bool),HeadInv .any l.toArray n L->∀i,i<n->L.getD i true=false->(∃j,j<n/\j∈Region.ready .any l.toArray L)/\∀t,n<=t->t ∉ Region.ready .any l.toArray L:=by
  intro L hL i hi hun
  constructor
  ·induction i using Nat.strongRecOn with
   |_ i ih=>
    have hsz:i<l.toArray.size:=iZ hi hn
    rcases Classical.em (∀e∈l.toArray[i].after,Region.binds .any e=true->L.getD e.on false=true)with h|h
    ·exact⟨i,hi,mem_ready.2 ⟨hun,_,Array.getElem?_eq_getElem hsz,h⟩⟩
    ·have⟨e,h1⟩:=Classical.not_forall.1 h
     have⟨he,h2⟩:=Classical.not_imp.1 h1
     have⟨hb,h3⟩:=Classical.not_imp.1 h2
     have hlt:=(hedge i _ (Array.getElem?_eq_getElem hsz) hi).1 e he hb
     exact ih e.on hlt (by omega) (getD_in (by rw [hL.size];omega) (by simpa using h3))
  ·intro t htn hr
   rcases htl with h|h
   ·obtain⟨_,o,ho,_⟩:=mem_ready.1 hr
    have:=(iG ho)
    omega
   ·rcases Nat.lt_or_ge n l.toArray.size with h'|h'
    ·exact tail_waits h.1 h.2 h' hL (n - i) i rfl hi hun t htn hr
    ·obtain⟨_,o,ho,_⟩:=mem_ready.1 hr
     have:=(iG ho)
     omega
 have hfull:∀(L:Array Bool),HeadInv .any l.toArray n L->(∀i,i<n->L.getD i false=true)->L=(List.replicate n true++List.replicate (l.toArray.size - n) false).toArray:=by
  intro L hL hall
  apply Array.ext
  ·rw [hL.size];simp;simp at hn;omega
  ·intro i h1 h2
   rcases Nat.lt_or_ge i n with h|h
   ·have:=hall i h
    simp [h1]at this
    simp [h,this]
   ·have:=hL.tail i h (by rw [<-hL.size];exact h1)
    simp [h1]at this
    simp [List.getElem_append,Nat.not_lt.2 h,this]
 have main:∀c (L:Array Bool) (a:Act) (w:World),(List.range n).countP (fun j=> !L.getD j false)=c->j7a l.toArray n ds anc J F a0 L a w->wpAny P .any l.toArray Q (c+(l.toArray.size - n)) L a w:=by
  intro c
  induction c with
  |zero=>
   intro L a w hcnt hI
   have hall:∀i,i<n->L.getD i false=true:=fun i hi=>by
    have:=List.countP_eq_zero.1 hcnt i (List.mem_range.2 hi)
    simpa using this
   obtain⟨v,ha,hJ,hF⟩:=hI.f
   have hL:=hfull L hI.hd hall
   have hLd:(fun k=>L.getD k false)=fun k=>decide (k<n):=by
    funext k
    rcases Nat.lt_or_ge k n with h|h
    ·rw [hall k h,decide_eq_true h]
    ·rw [decide_eq_false (Nat.not_lt.2 h)]
     rcases Nat.lt_or_ge k l.toArray.size with h'|h'
     ·exact getD_both (hI.hd.tail k h h')
     ·have:L.size<=k:=by rw [hI.hd.size];exact h'
      simp [Array.getElem?_eq_none this]
   rw [hLd]at hJ
   have h2:=ht v w hJ (fun k hk=>hF k (hall k hk))
   rw [<-ha]at h2
   rw [Nat.zero_add]
   have hdl:(l.drop n).length=l.toArray.size - n:=by simp
   have:=wpAny_of_seq (md:=.any) (ops:=l.toArray) (Q':=Q) (l.drop n) n L a w (fun j=>by simp [List.getElem?_drop]) (by rw [hdl,hL];exact hsq) h2
   rwa [hdl]at this
  |succ c ih=>
   intro L a w hcnt hI
   have hex:∃i,i<n/\L.getD i false=false:=by
    rcases Classical.em (∃i,i<n/\L.getD i false=false)with h|h
    ·exact h
    ·have:(List.range n).countP (fun j=> !L.getD j false)=0:=List.countP_eq_zero.2 fun j hj hb=>h ⟨j,List.mem_range.1 hj,by simpa using hb⟩
     omega
   obtain⟨i0,hi0,hun0⟩:=hex
   have hP:=hprog L hI.hd i0 hi0 (getD_in (by rw [hI.hd.size];omega) hun0)
   rw [show c+1+(l.toArray.size - n)=(c+(l.toArray.size - n))+1 by omega]
   refine⟨fun h=> ?_,fun i hi=> ?_⟩
   ·obtain⟨j,_,hj⟩:=hP.1
    rw [h]at hj;cases hj
   ·have hin:i<n:=by
     rcases Nat.lt_or_ge i n with h|h
     ·exact h
     ·exact absurd hi (hP.2 i h)
    obtain⟨hun,o,ho,hall⟩:=mem_ready.1 hi
    obtain⟨v,ha,hJ,hF⟩:=hI.f
    obtain⟨h1,h2⟩:=hops i o ho hin
    have hA:=hanc L hI.hd i i iL hin o ho hall
    have hstep:=hs.get i o h1
    rw [Nat.zero_add]at hstep
    rw [ha]
    refine wpOp_step ho fun K hK=>hstep (fun k=>L.getD k false) v w hJ (getD_both hun) (fun k hk=>(hA k hk).2) hF K fun y w' hg' hr' hf'=>hK _ _ (ih _ _ _ ?_ ⟨hI.hd.set hi hin,xQ v i y,?_,?_,?_⟩)
    ·have:=ZD (fun j=> !L.getD j false) (fun j=> !(L.setIfInBounds i true).getD j false) i n hin (fun j hj=>by simp only [getD_set_ne false (Ne.symm hj)]) (by simp only [getD_both hun,Bool.not_false]) (by
      have hls:i<L.size:=by rw [hI.hd.size];omega
      simp [hls])
     omega
    ·rw [<-h2]
     have:=Us y ds 0 v a0 i hap (by omega)
     rwa [Nat.zero_add]at this
    ·have hls:i<L.size:=by rw [hI.hd.size];omega
     have:(fun k=>(L.setIfInBounds i true).getD k false)=Km (fun k=>L.getD k false) i:=by
      funext k
      unfold Km
      by_cases h:k=i
      ·subst h;simp [hls]
      ·rw [iF h,getD_set_ne false (Ne.symm h)]
     rw [this]
     exact hg'
    ·intro k hl
     by_cases hki:k=i
     ·subst hki;exact hf'
     ·rw [getD_set_ne false (Ne.symm hki)]at hl
      have hk:k<n:=by
       rcases Nat.lt_or_ge k n with h|h
       ·exact h
       ·rcases Nat.lt_or_ge k l.toArray.size with h'|h'
        ·rw [getD_both (hI.hd.tail k h h')]at hl;cases hl
        ·have:L.size<=k:=by rw [hI.hd.size];exact h'
         simp [Array.getElem?_eq_none this]at hl
      have hne:∀m,m∈k :: anc.getD k []->m≠i:=by
       intro m hm he
       subst he
       rcases List.mem_cons.1 hm with h|h
       ·exact hki h.symm
       ·have hsz:k<l.toArray.size:=iZ hk hn
        have:=(hanc L hI.hd k k iL hk _ (Array.getElem?_eq_getElem hsz) (fun e he hb=>hI.hd.closed k _ (Array.getElem?_eq_getElem hsz) hl e he hb) m h).2
        rw [getD_both hun]at this
        cases this
      have hres:J0 (k :: anc.getD k []) (xQ v i y)=J0 (k :: anc.getD k []) v:=by
       funext m
       unfold J0 xQ
       split
       ·rename_i hm
        rw [iF (hne m hm)]
       ·rfl
      rw [hres]
      exact hst.get k _ _ _ ⟨_,_,hJ⟩ ⟨_,_,hg'⟩ hr' (hF k hl)
 refine wp_region_any hm ?_
 have inv0:HeadInv .any l.toArray n (Array.replicate l.toArray.size false):=
  ⟨by simp,fun j oj _ hl=>(by rw [getD_replicate_false]at hl;cases hl),fun t _ ht=>getD_in (by simpa using ht) (getD_replicate_false _ _)⟩
 have h0:=main n (Array.replicate l.toArray.size false) a0 w.drew (by
  have:(List.range n).countP (fun j=> !(Array.replicate l.toArray.size false).getD j false)=(List.range n).length:=List.countP_eq_length.2 fun j _=>by rw [getD_replicate_false]<;>rfl
  rw [this,List.length_range]) ⟨inv0,fun j=>Xz a0 (ds.getD (j - 0) none),(Uq ds 0 a0).symm,by simp only [getD_replicate_false];exact hG _,fun k hl=>by rw [getD_replicate_false]at hl;cases hl⟩
 rw [show n+(l.toArray.size - n)=l.toArray.size by omega]at h0
 exact h0
end
inductive Vc (J:(Nat->Bool)->(Nat->Value)->World->Prop) (R:World->World->Prop):Type where
 |v (x:Value):Vc J R
 |q (f:(Nat->Value)->Prop):Vc J R
 |p (f:(Nat->Value)->World->Prop) (h:Vj J R f):Vc J R
section
variable {J:(Nat->Bool)->(Nat->Value)->World->Prop} {R:World->World->Prop}
def xD:Nat->List (Vc J R)->List ((Nat->Value)->World->Prop)
 |_,[]=>[]
 |i,.v x :: l=>(fun v _=>v i=x) :: xD (i+1) l
 |i,.q f :: l=>(fun v _=>f v) :: xD (i+1) l
 |i,.p f _ :: l=>f :: xD (i+1) l
def jZ(v:Nat->Value):Nat->List (Vc J R)->List Nat->Prop
 |_,_,[]=>RowKit.Hid True
 |_,[],_ :: _=>RowKit.Hid True
 |i,.v x :: l,k :: a=>if i=k then v i=x/\jZ v (i+1) l a else jZ v (i+1) l (k :: a)
 |i,.q _ :: l,k :: a=>if i=k then jZ v (i+1) l a else jZ v (i+1) l (k :: a)
 |i,.p _ _ :: l,k :: a=>if i=k then jZ v (i+1) l a else jZ v (i+1) l (k :: a)
def kE(v:Nat->Value):Nat->List (Vc J R)->Prop
 |_,[]=>RowKit.Hid True
 |i,.v x :: l=>v i=x/\kE v (i+1) l
 |i,.q _ :: l=>kE v (i+1) l
 |i,.p _ _ :: l=>kE v (i+1) l
theorem ZG:∀(l:List (Vc J R)) (i:Nat),StabsRG J R (xD i l):=by
 intro l
 induction l with
 |nil=>intro _;trivial
 |cons x l ih=>
  intro i
  cases x with
  |v x=>exact⟨fun _ _ _ _ _ _ h=>h,ih _⟩
  |q f=>exact⟨fun _ _ _ _ _ _ h=>h,ih _⟩
  |p f h=>exact⟨h,ih _⟩
theorem j24(v:Nat->Value):∀(l:List (Vc J R)) (i:Nat) (a:List Nat),(∀k x,k∈a->i<=k->l[k - i]?=some (.v x)->v k=x)->jZ v i l a:=by
 intro l
 induction l with
 |nil=>intro i a _;cases a<;>exact iH trivial
 |cons y l ih=>
  intro i a h
  cases a with
  |nil=>cases y<;>exact iH trivial
  |cons k a=>
   have h1:jZ v (i+1) l (k :: a):=ih _ _ fun j x hj hi hx=>h j x hj (by omega) (by
    obtain⟨d,hd⟩:∃d,j - i=d+1:=⟨j - i - 1,by omega⟩
    rw [show j - (i+1)=d by omega]at hx
    rw [hd,List.getElem?_cons_succ];exact hx)
   have h2:jZ v (i+1) l a:=ih _ _ fun j x hj hi hx=>h j x (List.mem_cons_of_mem _ hj) (by omega) (by
    obtain⟨d,hd⟩:∃d,j - i=d+1:=⟨j - i - 1,by omega⟩
    rw [show j - (i+1)=d by omega]at hx
    rw [hd,List.getElem?_cons_succ];exact hx)
   have h3:i=k->∀x,y=.v x->v i=x:=fun e x hy=>by subst e;exact h i x List.mem_cons_self iL (by rw [Nat.sub_self,hy]<;>rfl)
   cases y with
   |v x=>unfold jZ;split;exact⟨h3 ‹_› x rfl,h2⟩;exact h1
   |q f=>unfold jZ;split;exact h2;exact h1
   |p f g=>unfold jZ;split;exact h2;exact h1
theorem j1s(v:Nat->Value):∀(l:List (Vc J R)) (i:Nat),(∀k x,l[k]?=some (.v x)->v (i+k)=x)->kE v i l:=by
 intro l
 induction l with
 |nil=>intro i _;exact iH trivial
 |cons y l ih=>
  intro i h
  have h1:kE v (i+1) l:=ih _ fun k x hx=>by have:=h (k+1) x (by rw [List.getElem?_cons_succ];exact hx);rwa [show i+(k+1)=i+1+k by omega]at this
  cases y with
  |v x=>exact⟨h 0 x rfl,h1⟩
  |q f=>exact h1
  |p f g=>exact h1
theorem Yx(v:Nat->Value)(s:Nat->List Nat)(w:World):∀(l:List (Vc J R)) (i k:Nat) (x:Value),l[k]?=some (.v x)->((xD i l).getD k fun _ _=>True) (J0 ((i+k) :: s (i+k)) v) w->v (i+k)=x:=by
 intro l
 induction l with
 |nil=>intro i k x h;simp at h
 |cons y l ih=>
  intro i k x h hf
  cases k with
  |zero=>
   rw [List.getElem?_cons_zero]at h
   injection h with h
   subst h
   simp only [xD,List.getD_cons_zero,Nat.add_zero]at hf
   simpa [J0]using hf
  |succ k=>
   rw [List.getElem?_cons_succ]at h
   have e:i+(k+1)=i+1+k:=by omega
   rw [e]at hf |-
   apply ih (i+1) k x h
   cases y<;>simpa only [xD,List.getD_cons_succ]using hf
end
section
variable {P:Program} {Q:Exit->Act->World->Prop}
def j6b(P:Program)(ops:Array Oper)(Q:Exit->Act->World->Prop)(ds:List (Option Tmp))(anc:List (List Nat))(J:(Nat->Bool)->(Nat->Value)->World->Prop)(R:World->World->Prop)(T:List (Vc J R))(a0:Act)(i:Nat)(o:Oper):Prop:=
 ∀(L:Nat->Bool) (v:Nat->Value) (w:World),J L v w->L i=false->(∀k,k∈anc.getD i []->((xD 0 T).getD k fun _ _=>True) (J0 (k :: anc.getD k []) v) w)->jZ v 0 T (anc.getD i [])->∀K:Act->World->Prop,
  (∀y w',J (Km L i) (xQ v i y) w'->R w w'->((xD 0 T).getD i fun _ _=>True) (J0 (i :: anc.getD i []) (xQ v i y)) w'->K ((jb ds 0 v a0).put o.dst y) w')->
  if Region.wanted o (yielded ops (jb ds 0 v a0).tmps)=true then Oper.wp P o (jb ds 0 v a0) w K Q else K ((jb ds 0 v a0).put o.dst undef) w
theorem StepsRG.imp{S S':Nat->Oper->Prop}(h:∀i o,S i o->S' i o):∀ {l:List Oper} {i:Nat},StepsRG S l i->StepsRG S' l i:=by
 intro l
 induction l with
 |nil=>intro _ _;trivial
 |cons o l ih=>intro i ⟨h1,h2⟩;exact⟨h _ _ h1,ih h2⟩
theorem ja{id:Nat}{l:List Oper}{a0:Act}{w:World}(n:Nat)(ds:List (Option Tmp))(anc:List (List Nat))(J:(Nat->Bool)->(Nat->Value)->World->Prop)(R:World->World->Prop)(T:List (Vc J R))(hm:P.follows .mixedOrders=true)(hc:Zu l.toArray n ds anc=true)(hn:T.length=n)(hG:∀v,J (fun _=>false) v w.drew)(hs:StepsRG (j6b P l.toArray Q ds anc J R T a0) (l.take n) 0)(ht:∀v w,J (fun k=>decide (k<n)) v w->(∀k,k<n->((xD 0 T).getD k fun _ _=>True) (J0 (k :: anc.getD k []) v) w)->kE v 0 T->wpList P l.toArray Q (l.drop n) (jb ds 0 v a0) w):
 (Code.region id l.toArray true).wp P Q a0 w:=by
 refine Zm n ds anc J R (xD 0 T) hm hc hG (ZG _ _) (hs.imp fun i o h=> ?_) fun v w hJ hF=>ht v w hJ hF (j1s v T 0 fun k x hx=> ?_)
 ·intro L v w hJ hL hA hF K hK
  refine h L v w hJ hL (fun k hk=>hF k (hA k hk)) (j24 v T 0 _ fun k x hk _ hx=> ?_) K hK
  have:=Yx v (fun k=>anc.getD k []) w T 0 k x (by simpa using hx)
  simp only [Nat.zero_add]at this
  exact this (hF k (hA k hk))
 ·have h1:=Yx v (fun k=>anc.getD k []) w T 0 k x hx
  have hk:k<n:=by rw [<-hn];exact(List.getElem?_eq_some_iff.1 hx).1
  simp only [Nat.zero_add]at h1 |-
  exact h1 (hF k hk)
end
end Go.Proofs.YtalmmiojbmpmiaaGreatDoor
