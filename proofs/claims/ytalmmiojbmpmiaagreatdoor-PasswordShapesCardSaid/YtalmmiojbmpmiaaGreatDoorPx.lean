/- A region that draws its order, by what each operation leaves behind: one walk, whatever the order; no program is named here; Digest: the walk of Compress -/
import Derived.StillTailTactics
import Derived.Test.YtalmmiojbmpmiaaGreatDoorChecked
import Derived.Test.YtalmmiojbmpmiaaGreatDoorPh
set_option linter.all false
set_option maxRecDepth 100000
set_option maxHeartbeats 8000000
namespace Go.Proofs.YtalmmiojbmpmiaaGreatDoor
open Go.RowKit Go.Deep
def ja:List (Option Tmp)->Nat->(Nat->Value)->Act->Act
 |[],_,_,a=>a
 |d :: ds,k,v,a=>ja ds (k+1) v (a.put d (v k))
def qY(v:Nat->Value)(i:Nat)(y:Value):Nat->Value:=fun k=>if k=i then y else v k
def VP(L:Nat->Bool)(i:Nat):Nat->Bool:=fun k=>if k=i then true else L k
def Q6(s:List Nat)(v:Nat->Value):Nat->Value:=fun k=>if k∈s then v k else undef
def JW(a:Act):Option Tmp->Value
 |some d=>a.tmps.getD d undef
 |none=>undef
theorem Act.put_get(a:Act)(d:Option Tmp):a.put d (JW a d)=a:=by
 cases d with
 |none=>rfl
 |some d=>
  obtain⟨t,de⟩:=a
  simp only [Act.put,JW]
  congr 1
  apply Array.ext
  ·simp
  ·intro i h1 h2
   by_cases h:d=i
   ·subst h;simp [h2]
   ·rw [Array.getElem_setIfInBounds_ne _ h]
theorem Act.put_put(a:Act)(d:Option Tmp)(u v:Value):(a.put d u).put d v=a.put d v:=by
 cases d with
 |none=>rfl
 |some d=>
  obtain⟨t,de⟩:=a
  simp only [Act.put]
  congr 1
  apply Array.ext
  ·simp
  ·intro i h1 h2
   by_cases h:d=i
   ·subst h;simp
   ·simp
theorem Xo:∀(ds:List (Option Tmp)) (k:Nat) (a:Act),ja ds k (fun j=>JW a (ds.getD (j - k) none)) a=a:=by
 intro ds
 induction ds with
 |nil=>intros;rfl
 |cons d ds ih=>
  intro k a
  unfold ja
  simp only [Nat.sub_self,List.getD_cons_zero]
  rw [Act.put_get]
  have:∀(b:Act),ja ds (k+1) (fun j=>JW a ((d :: ds).getD (j - k) none)) b=ja ds (k+1) (fun j=>JW a (ds.getD (j - (k+1)) none)) b:=by
   suffices h:∀(l:List (Option Tmp)) (m:Nat),k<m->∀b,ja l m (fun j=>JW a ((d :: ds).getD (j - k) none)) b=ja l m (fun j=>JW a (ds.getD (j - (k+1)) none)) b from h ds (k+1) (by omega)
   intro l
   induction l with
   |nil=>intros;rfl
   |cons e l ihl=>
    intro m hm b
    unfold ja
    rw [ihl (m+1) (by omega)]
    obtain⟨q,hq⟩:∃q,m - k=q+1:=⟨m - k - 1,by omega⟩
    have hq':m - (k+1)=q:=by omega
    simp only [hq,hq',List.getD_cons_succ]
  rw [this,ih]
def qM:List (Option Tmp)->Bool
 |[]=>true
 |none :: ds=>qM ds
 |some d :: ds=> !ds.contains (some d)&&qM ds
theorem Xp(x:Option Tmp)(y:Value):∀(ds:List (Option Tmp)) (k:Nat) (v:Nat->Value) (a:Act),(∀d,x=some d->some d ∉ ds)->(ja ds k v a).put x y=ja ds k v (a.put x y):=by
 intro ds
 induction ds with
 |nil=>intros;rfl
 |cons d ds ih=>
  intro k v a h
  unfold ja
  rw [ih _ _ _ (fun e he hm=>h e he (List.mem_cons_of_mem _ hm)),Act.put_comm a (v k) y (fun e he hx=>h e hx (he▸List.mem_cons_self))]
theorem JT:∀(ds:List (Option Tmp)) (k:Nat) (v u:Nat->Value) (a:Act),(∀j,k<=j->v j=u j)->ja ds k v a=ja ds k u a:=by
 intro ds
 induction ds with
 |nil=>intros;rfl
 |cons d ds ih=>intro k v u a h;unfold ja;rw [h k iL,ih _ v u _ (fun j hj=>h j (by omega))]
theorem Xq(y:Value):∀(ds:List (Option Tmp)) (k:Nat) (v:Nat->Value) (a:Act) (i:Nat),qM ds=true->i<ds.length->
 (ja ds k v a).put (ds.getD i none) y=ja ds k (qY v (k+i) y) a:=by
 intro ds
 induction ds with
 |nil=>intro k v a i _ h;cases h
 |cons d ds ih=>
  intro k v a i hap hi
  have hap2:qM ds=true:=by
   cases d with
   |none=>exact hap
   |some d=>simp only [qM,Bool.and_eq_true]at hap;exact hap.2
  have hd:∀e,d=some e->some e ∉ ds:=by
   intro e he;subst he
   simp only [qM,Bool.and_eq_true,Bool.not_eq_true',List.contains_eq_mem,decide_eq_false_iff_not]at hap
   exact hap.1
  cases i with
  |zero=>
   simp only [List.getD_cons_zero,Nat.add_zero]
   show(ja ds (k+1) v (a.put d (v k))).put d y=ja ds (k+1) (qY v k y) (a.put d (qY v k y k))
   rw [Xp d y ds _ _ _ hd,Act.put_put,JT ds (k+1) v (qY v k y) _ (fun j hj=>by simp only [qY];rw [iF (by omega)])]
   simp [qY]
  |succ i=>
   simp only [List.getD_cons_succ]
   show(ja ds (k+1) v (a.put d (v k))).put _ y=ja ds (k+1) (qY v (k+(i+1)) y) (a.put d (qY v (k+(i+1)) y k))
   rw [ih (k+1) v _ i hap2 (by simpa using hi)]
   have e1:qY v (k+(i+1)) y k=v k:=by simp only [qY];rw [iF (by omega)]
   rw [e1,show k+1+i=k+(i+1)by omega]
section
variable {P:Program} {Q:Exit->Act->World->Prop}
def j0d(P:Program)(ops:Array Oper)(Q:Exit->Act->World->Prop)(ds:List (Option Tmp))(anc:List (List Nat))(J:(Nat->Bool)->(Nat->Value)->World->Prop)(R:World->World->Prop)(F:List ((Nat->Value)->World->Prop))(a0:Act)(i:Nat)(o:Oper):Prop:=
 ∀(L:Nat->Bool) (v:Nat->Value) (w:World),J L v w->L i=false->(∀k,k∈anc.getD i []->L k=true)->(∀k,L k=true->(F.getD k fun _ _=>True) (Q6 (k :: anc.getD k []) v) w)->∀K:Act->World->Prop,
  (∀y w',J (VP L i) (qY v i y) w'->R w w'->(F.getD i fun _ _=>True) (Q6 (i :: anc.getD i []) (qY v i y)) w'->K ((ja ds 0 v a0).put o.dst y) w')->
  if Region.wanted o (yielded ops (ja ds 0 v a0).tmps)=true then Oper.wp P o (ja ds 0 v a0) w K Q else K ((ja ds 0 v a0).put o.dst undef) w
def StepsRG(S:Nat->Oper->Prop):List Oper->Nat->Prop
 |[],_=>True
 |o :: l,i=>S i o/\StepsRG S l (i+1)
theorem StepsRG.cons{S:Nat->Oper->Prop}{o:Oper}{l:List Oper}{i:Nat}(h:S i o)(hs:StepsRG S l (i+1)):StepsRG S (o :: l) i:=⟨h,hs⟩
theorem StepsRG.nil{S:Nat->Oper->Prop}{i:Nat}:StepsRG S [] i:=trivial
theorem StepsRG.get{S:Nat->Oper->Prop}:∀ {l:List Oper} {k:Nat},StepsRG S l k->∀i o,l[i]?=some o->S (k+i) o:=by
 intro l
 induction l with
 |nil=>intro k _ i o h;simp at h
 |cons x l ih=>
  intro k h i o ho
  cases i with
  |zero=>simp at ho;subst ho;exact h.1
  |succ i=>have:=ih h.2 i o (by simpa using ho);rwa [show k+1+i=k+(i+1)by omega]at this
def Za(J:(Nat->Bool)->(Nat->Value)->World->Prop)(R:World->World->Prop)(f:(Nat->Value)->World->Prop):Prop:=∀v w w',(∃L u,J L u w)->(∃L u,J L u w')->R w w'->f v w->f v w'
def StabsRG(J:(Nat->Bool)->(Nat->Value)->World->Prop)(R:World->World->Prop):List ((Nat->Value)->World->Prop)->Prop
 |[]=>True
 |f :: l=>Za J R f/\StabsRG J R l
theorem StabsRG.cons{J:(Nat->Bool)->(Nat->Value)->World->Prop}{R:World->World->Prop}{f:(Nat->Value)->World->Prop}{l:List ((Nat->Value)->World->Prop)}(h:Za J R f)(hs:StabsRG J R l):StabsRG J R (f :: l):=⟨h,hs⟩
theorem StabsRG.nil{J:(Nat->Bool)->(Nat->Value)->World->Prop}{R:World->World->Prop}:StabsRG J R []:=trivial
theorem StabsRG.get{J:(Nat->Bool)->(Nat->Value)->World->Prop}{R:World->World->Prop}:∀ {l:List ((Nat->Value)->World->Prop)},StabsRG J R l->∀i,Za J R (l.getD i fun _ _=>True):=by
 intro l
 induction l with
 |nil=>intro _ i v w w' _ _ _ _;simp
 |cons x l ih=>
  intro h i
  cases i with
  |zero=>exact h.1
  |succ i=>exact ih h.2 i
def Zn(ops:Array Oper)(n:Nat)(ds:List (Option Tmp))(anc:List (List Nat)):Bool:=
 decide (n<=ops.size)&&decide (ds=(ops.toList.take n).map (·.dst))&&qM ds&&
 ((List.range n).all fun i=>match ops[i]? with
   |some o=>(o.after.all fun e=> !Region.binds .any e||decide (e.on<i))&&(anc.getD i []).all fun k=>o.after.any fun e=>Region.binds .any e&&(e.on==k||(anc.getD e.on []).contains k)
   |none=>false)&&
 (decide (n=ops.size)||(Region.sinkB .any ops n&&Region.chainB .any ops n))&&
 Region.seqB .any ops (ops.size - n) n ((List.replicate n true++List.replicate (ops.size - n) false).toArray)
theorem KK(p q:Nat->Bool)(i:Nat):∀n,i<n->(∀j,j≠i->q j=p j)->p i=true->q i=false->(List.range n).countP q+1=(List.range n).countP p:=by
 intro n
 induction n with
 |zero=>intro h;cases h
 |succ n ih=>
  intro hi hj hp hq
  rw [List.range_succ,List.countP_append,List.countP_append]
  by_cases h:i=n
  ·subst h
   have:(List.range i).countP q=(List.range i).countP p:=List.countP_congr fun x hx=>by rw [hj x (by have:=List.mem_range.1 hx;omega)]
   simp [hp,hq,this]
  ·have:=ih (by omega) hj hp hq
   simp only [List.countP_cons,List.countP_nil,hj n (Ne.symm h)]
   omega
structure j1f (ops:Array Oper) (n:Nat) (ds:List (Option Tmp)) (anc:List (List Nat)) (J:(Nat->Bool)->(Nat->Value)->World->Prop) (F:List ((Nat->Value)->World->Prop)) (a0:Act) (L:Array Bool) (a:Act) (w:World):Prop where
 hd:HeadInv .any ops n L
 f:∃v,a=ja ds 0 v a0/\J (fun k=>L.getD k false) v w/\∀k,L.getD k false=true->(F.getD k fun _ _=>True) (Q6 (k :: anc.getD k []) v) w
theorem jg{id:Nat}{l:List Oper}{a0:Act}{w:World}(n:Nat)(ds:List (Option Tmp))(anc:List (List Nat))(J:(Nat->Bool)->(Nat->Value)->World->Prop)(R:World->World->Prop)(F:List ((Nat->Value)->World->Prop))
 (hm:P.follows .mixedOrders=true) (hc:Zn l.toArray n ds anc=true) (hG:∀v,J (fun _=>false) v w.drew) (hst:StabsRG J R F)
 (hs:StepsRG (j0d P l.toArray Q ds anc J R F a0) (l.take n) 0)
 (ht:∀v w,J (fun k=>decide (k<n)) v w->(∀k,k<n->(F.getD k fun _ _=>True) (Q6 (k :: anc.getD k []) v) w)->wpList P l.toArray Q (l.drop n) (ja ds 0 v a0) w):
 (Code.region id l.toArray true).wp P Q a0 w:=by
 simp only [Zn,Bool.and_eq_true,decide_eq_true_eq,Bool.or_eq_true]at hc
 obtain⟨⟨⟨⟨⟨hn,hds⟩,hap⟩,hed⟩,htl⟩,hsq⟩:=hc
 have hn':n<=l.length:=by simpa using hn
 have hlen:ds.length=n:=by rw [hds];simp;omega
 have hops:∀i (o:Oper),l.toArray[i]?=some o->i<n->(l.take n)[i]?=some o/\ds.getD i none=o.dst:=by
  intro i o ho hi
  have h1:(l.take n)[i]?=some o:=by rw [List.getElem?_take];simp only [hi,if_true];simpa using ho
  refine⟨h1,?_⟩
  rw [hds]
  have h2:(l.take n)[i]?=some o:=h1
  simp only [List.getD_eq_getElem?_getD,List.getElem?_map]
  rw [show(l.toArray.toList.take n)[i]?=some o from h2]
  rfl
 have hedge:∀i o,l.toArray[i]?=some o->i<n->(∀e∈o.after,Region.binds .any e=true->e.on<i)/\∀k,k∈anc.getD i []->∃e∈o.after,Region.binds .any e=true/\(e.on=k\/k∈anc.getD e.on []):=by
  intro i o ho hi
  have h:=List.all_eq_true.1 hed i (List.mem_range.2 hi)
  simp only [ho,Bool.and_eq_true]at h
  refine⟨fun e he hb=> ?_,fun k hk=> ?_⟩
  ·have:=Array.all_eq_true_iff_forall_mem.1 h.1 e he
   simpa [hb]using this
  ·have:=List.all_eq_true.1 h.2 k hk
   obtain⟨e,he,hb⟩:=Array.any_eq_true'.1 this
   simp only [Bool.and_eq_true,Bool.or_eq_true,beq_iff_eq,List.contains_eq_mem,decide_eq_true_eq]at hb
   exact⟨e,he,hb.1,hb.2⟩
 have hanc:∀(L:Array Bool),HeadInv .any l.toArray n L->∀i,∀j,j<=i->j<n->∀o,l.toArray[j]?=some o->(∀e∈o.after,Region.binds .any e=true->L.getD e.on false=true)->∀k,k∈anc.getD j []->k<n/\L.getD k false=true:=by
  intro L hL i
  induction i with
  |zero=>
   intro j hj hjn o ho hall k hk
   obtain⟨e,he,hb,_⟩:=(hedge j o ho hjn).2 k hk
   have:=(hedge j o ho hjn).1 e he hb
   omega
  |succ i ih=>
   intro j hj hjn o ho hall k hk
   obtain⟨e,he,hb,hek⟩:=(hedge j o ho hjn).2 k hk
   have hlt:=(hedge j o ho hjn).1 e he hb
   rcases hek with rfl|hek
   ·exact⟨by omega,hall e he hb⟩
   ·have hsz:e.on<l.toArray.size:=iZ (Nat.lt_trans hlt hjn) hn
    exact ih e.on (by omega) (by omega) _ (Array.getElem?_eq_getElem hsz) (fun e' he' hb'=>hL.closed e.on _ (Array.getElem?_eq_getElem hsz) (hall e he hb) e' he' hb') k hek
 have hprog:∀(L:Array Bool),HeadInv .any l.toArray n L->∀i,i<n->L.getD i true=false->(∃j,j<n/\j∈Region.ready .any l.toArray L)/\∀t,n<=t->t ∉ Region.ready .any l.toArray L:=by
  intro L hL i hi hun
  constructor
  ·induction i using Nat.strongRecOn with
   |_ i ih=>
    have hsz:i<l.toArray.size:=iZ hi hn
    rcases Classical.em (∀e∈l.toArray[i].after,Region.binds .any e=true->L.getD e.on false=true)with h|h
    ·exact⟨i,hi,mem_ready.2 ⟨hun,_,Array.getElem?_eq_getElem hsz,h⟩⟩
    ·have⟨e,h1⟩:=Classical.not_forall.1 h
     have⟨he,h2⟩:=Classical.not_imp.1 h1
     have⟨hb,h3⟩:=Classical.not_imp.1 h2
     have hlt:=(hedge i _ (Array.getElem?_eq_getElem hsz) hi).1 e he hb
     exact ih e.on hlt (by omega) (getD_in (by rw [hL.size];omega) (by simpa using h3))
  ·intro t htn hr
   rcases htl with h|h
   ·obtain⟨_,o,ho,_⟩:=mem_ready.1 hr
    have:=(iG ho)
    omega
   ·rcases Nat.lt_or_ge n l.toArray.size with h'|h'
    ·exact tail_waits h.1 h.2 h' hL (n - i) i rfl hi hun t htn hr
    ·obtain⟨_,o,ho,_⟩:=mem_ready.1 hr
     have:=(iG ho)
     omega
 have hfull:∀(L:Array Bool),HeadInv .any l.toArray n L->(∀i,i<n->L.getD i false=true)->L=(List.replicate n true++List.replicate (l.toArray.size - n) false).toArray:=by
  intro L hL hall
  apply Array.ext
  ·rw [hL.size];simp;simp at hn;omega
  ·intro i h1 h2
   rcases Nat.lt_or_ge i n with h|h
   ·have:=hall i h
    simp [h1]at this
    simp [h,this]
   ·have:=hL.tail i h (by rw [<-hL.size];exact h1)
    simp [h1]at this
    simp [List.getElem_append,Nat.not_lt.2 h,this]
 have main:∀c (L:Array Bool) (a:Act) (w:World),(List.range n).countP (fun j=> !L.getD j false)=c->j1f l.toArray n ds anc J F a0 L a w->wpAny P .any l.toArray Q (c+(l.toArray.size - n)) L a w:=by
  intro c
  induction c with
  |zero=>
   intro L a w hcnt hI
   have hall:∀i,i<n->L.getD i false=true:=fun i hi=>by
    have:=List.countP_eq_zero.1 hcnt i (List.mem_range.2 hi)
    simpa using this
   obtain⟨v,ha,hJ,hF⟩:=hI.f
   have hL:=hfull L hI.hd hall
   have hLd:(fun k=>L.getD k false)=fun k=>decide (k<n):=by
    funext k
    rcases Nat.lt_or_ge k n with h|h
    ·rw [hall k h,decide_eq_true h]
    ·rw [decide_eq_false (Nat.not_lt.2 h)]
     rcases Nat.lt_or_ge k l.toArray.size with h'|h'
     ·exact getD_both (hI.hd.tail k h h')
     ·have:L.size<=k:=by rw [hI.hd.size];exact h'
      simp [Array.getElem?_eq_none this]
   rw [hLd]at hJ
   have h2:=ht v w hJ (fun k hk=>hF k (hall k hk))
   rw [<-ha]at h2
   rw [Nat.zero_add]
   have hdl:(l.drop n).length=l.toArray.size - n:=by simp
   have:=wpAny_of_seq (md:=.any) (ops:=l.toArray) (Q':=Q) (l.drop n) n L a w (fun j=>by simp [List.getElem?_drop]) (by rw [hdl,hL];exact hsq) h2
   rwa [hdl]at this
  |succ c ih=>
   intro L a w hcnt hI
   have hex:∃i,i<n/\L.getD i false=false:=by
    rcases Classical.em (∃i,i<n/\L.getD i false=false)with h|h
    ·exact h
    ·have:(List.range n).countP (fun j=> !L.getD j false)=0:=List.countP_eq_zero.2 fun j hj hb=>h ⟨j,List.mem_range.1 hj,by simpa using hb⟩
     omega
   obtain⟨i0,hi0,hun0⟩:=hex
   have hP:=hprog L hI.hd i0 hi0 (getD_in (by rw [hI.hd.size];omega) hun0)
   rw [show c+1+(l.toArray.size - n)=(c+(l.toArray.size - n))+1 by omega]
   refine⟨fun h=> ?_,fun i hi=> ?_⟩
   ·obtain⟨j,_,hj⟩:=hP.1
    rw [h]at hj;cases hj
   ·have hin:i<n:=by
     rcases Nat.lt_or_ge i n with h|h
     ·exact h
     ·exact absurd hi (hP.2 i h)
    obtain⟨hun,o,ho,hall⟩:=mem_ready.1 hi
    obtain⟨v,ha,hJ,hF⟩:=hI.f
    obtain⟨h1,h2⟩:=hops i o ho hin
    have hA:=hanc L hI.hd i i iL hin o ho hall
    have hstep:=hs.get i o h1
    rw [Nat.zero_add]at hstep
    rw [ha]
    refine wpOp_step ho fun K hK=>hstep (fun k=>L.getD k false) v w hJ (getD_both hun) (fun k hk=>(hA k hk).2) hF K fun y w' hg' hr' hf'=>hK _ _ (ih _ _ _ ?_ ⟨hI.hd.set hi hin,qY v i y,?_,?_,?_⟩)
    ·have:=KK (fun j=> !L.getD j false) (fun j=> !(L.setIfInBounds i true).getD j false) i n hin (fun j hj=>by simp only [getD_set_ne false (Ne.symm hj)]) (by simp only [getD_both hun,Bool.not_false]) (by
      have hls:i<L.size:=by rw [hI.hd.size];omega
      simp [hls])
     omega
    ·rw [<-h2]
     have:=Xq y ds 0 v a0 i hap (by omega)
     rwa [Nat.zero_add]at this
    ·have hls:i<L.size:=by rw [hI.hd.size];omega
     have:(fun k=>(L.setIfInBounds i true).getD k false)=VP (fun k=>L.getD k false) i:=by
      funext k
      unfold VP
      by_cases h:k=i
      ·subst h;simp [hls]
      ·rw [iF h,getD_set_ne false (Ne.symm h)]
     rw [this]
     exact hg'
    ·intro k hl
     by_cases hki:k=i
     ·subst hki;exact hf'
     ·rw [getD_set_ne false (Ne.symm hki)]at hl
      have hk:k<n:=by
       rcases Nat.lt_or_ge k n with h|h
       ·exact h
       ·rcases Nat.lt_or_ge k l.toArray.size with h'|h'
        ·rw [getD_both (hI.hd.tail k h h')]at hl;cases hl
        ·have:L.size<=k:=by rw [hI.hd.size];exact h'
         simp [Array.getElem?_eq_none this]at hl
      have hne:∀m,m∈k :: anc.getD k []->m≠i:=by
       intro m hm he
       subst he
       rcases List.mem_cons.1 hm with h|h
       ·exact hki h.symm
       ·have hsz:k<l.toArray.size:=iZ hk hn
        have:=(hanc L hI.hd k k iL hk _ (Array.getElem?_eq_getElem hsz) (fun e he hb=>hI.hd.closed k _ (Array.getElem?_eq_getElem hsz) hl e he hb) m h).2
        rw [getD_both hun]at this
        cases this
      have hres:Q6 (k :: anc.getD k []) (qY v i y)=Q6 (k :: anc.getD k []) v:=by
       funext m
       unfold Q6 qY
       split
       ·rename_i hm
        rw [iF (hne m hm)]
       ·rfl
      rw [hres]
      exact hst.get k _ _ _ ⟨_,_,hJ⟩ ⟨_,_,hg'⟩ hr' (hF k hl)
 refine wp_region_any hm ?_
 have inv0:HeadInv .any l.toArray n (Array.replicate l.toArray.size false):=
  ⟨by simp,fun j oj _ hl=>(by rw [getD_replicate_false]at hl;cases hl),fun t _ ht=>getD_in (by simpa using ht) (getD_replicate_false _ _)⟩
 have h0:=main n (Array.replicate l.toArray.size false) a0 w.drew (by
  have:(List.range n).countP (fun j=> !(Array.replicate l.toArray.size false).getD j false)=(List.range n).length:=List.countP_eq_length.2 fun j _=>by rw [getD_replicate_false]<;>rfl
  rw [this,List.length_range]) ⟨inv0,fun j=>JW a0 (ds.getD (j - 0) none),(Xo ds 0 a0).symm,by simp only [getD_replicate_false];exact hG _,fun k hl=>by rw [getD_replicate_false]at hl;cases hl⟩
 rw [show n+(l.toArray.size - n)=l.toArray.size by omega]at h0
 exact h0
end
def KD(w:World):Prop:=∀j,j<64->w.cell? ⟨0,j,none⟩=some (W32 (YN.getD j 0))
theorem KD.below{w w':World}{B:Nat}(h:KD w)(hb:Below B w w')(hB:0<B):KD w':=fun j hj=>(hb.cell (p:=⟨0,j,none⟩) hB).trans (h j hj)
theorem KD.lt{w:World}(h:KD w):0<w.heap.size:=block_lt_of_cell (h 0 (by omega))
theorem j0e(g:Nat)(w:World):(Instr.arrayAt 144 (.slice (some ⟨g,0,none⟩) 8 8)).run Tryz.prog w=.ok (.pointer (some ⟨g,0,none⟩)) w:=by kernel_rfl
theorem j0r(w:World):(Instr.makeSlice 106 (.int .i64 8) (.int .i64 8)).run Tryz.prog w=.ok (.slice (some ⟨w.heap.size,0,none⟩) 8 8) (w.alloc (.cells #[.int .u32 0,.int .u32 0,.int .u32 0,.int .u32 0,.int .u32 0,.int .u32 0,.int .u32 0,.int .u32 0] 113)):=by kernel_rfl
def JB(n:Nat)(l:List UInt32):Array Value:=((l++List.replicate (n - l.length) 0).map W32).toArray
theorem ku{w:World}{g m:Nat}{t:TypeId}{l:List UInt32}{f:Nat×Nat}(h:w.heap[g]?=some (.cells (JB m l) t f)) {j:Nat} (hj:j<l.length):w.cell? ⟨g,j,none⟩=some (W32 (l.getD j 0)):=by
 rw [cell_of_row _ _ _ _ _ _ h]
 simp [JB,List.getElem?_append,hj]
theorem qt{w:World}{g m:Nat}{t:TypeId}{l:List UInt32}(hl:l.length<m)(h:w.heap[g]?=some (.cells (JB m l) t (0,0))):w.cell? ⟨g,l.length,none⟩=some (W32 0)/\w.frozen? ⟨g,l.length,none⟩=false:=by
 refine⟨?_,by simp [World.frozen?,h]⟩
 rw [cell_of_row _ _ _ _ _ _ h]
 obtain⟨n,hn⟩:∃n,m - l.length=n+1:=⟨m - l.length - 1,by omega⟩
 simp [JB,hn,List.replicate_succ]
theorem kZ{w:World}{g o:Nat}{C:Array Value}{t:TypeId}{f:Nat×Nat}{v:Value}(h:w.heap[g]?=some (.cells C t f)):(w.setCell ⟨g,o,none⟩ v).heap[g]?=some (.cells (C.set! o v) t f):=by
 unfold World.setCell
 simp [Array.getElem?_modify,h]
theorem qs{w:World}{g m:Nat}{t:TypeId}{l:List UInt32}{x:UInt32}(hl:l.length<m)(h:w.heap[g]?=some (.cells (JB m l) t (0,0))):(w.setCell ⟨g,l.length,none⟩ (W32 x)).heap[g]?=some (.cells (JB m (l++ [x])) t (0,0)):=by
 have h2:=kZ (o:=l.length) (v:=W32 x) h
 rw [h2]
 have e:(JB m l).set! l.length (W32 x)=JB m (l++ [x]):=by
  apply Array.ext'
  simp only [JB,Array.set!_eq_setIfInBounds,Array.toList_setIfInBounds,List.length_append,List.length_singleton]
  obtain⟨n,hn⟩:∃n,m - l.length=n+1:=⟨m - l.length - 1,by omega⟩
  have hn2:m - (l.length+1)=n:=by omega
  rw [hn,hn2,List.replicate_succ]
  simp
 rw [e]
theorem qj{w:World}{p:Nat}{a b c d e f g h:Value}{t:TypeId}(hh:w.heap[p]?=some (.cells #[a,b,c,d,e,f,g,h] t (0,0))):
 w.cell? ⟨p,0,none⟩=some a/\w.cell? ⟨p,1,none⟩=some b/\w.cell? ⟨p,2,none⟩=some c/\w.cell? ⟨p,3,none⟩=some d/\w.cell? ⟨p,4,none⟩=some e/\w.cell? ⟨p,5,none⟩=some f/\w.cell? ⟨p,6,none⟩=some g/\w.cell? ⟨p,7,none⟩=some h/\∀o,w.frozen? ⟨p,o,none⟩=false:=by
 have key:∀o v,#[a,b,c,d,e,f,g,h][o]?=some v->w.cell? ⟨p,o,none⟩=some v:=fun o v e=>by rw [cell_of_row _ _ _ _ _ _ hh];exact e
 exact⟨key 0 _ rfl,key 1 _ rfl,key 2 _ rfl,key 3 _ rfl,key 4 _ rfl,key 5 _ rfl,key 6 _ rfl,key 7 _ rfl,fun o=>by simp [World.frozen?,hh]⟩
theorem xd{w:World}{p:Nat}{s:St8}{t:TypeId}(hh:w.heap[p]?=some (.cells s.cells t (0,0))) {j:Nat} (hj:j<8):w.cell? ⟨p,j,none⟩=some (W32 (s.list.getD j 0)):=by
 rw [cell_of_row _ _ _ _ _ _ hh]
 obtain rfl|rfl|rfl|rfl|rfl|rfl|rfl|rfl:j=0\/j=1\/j=2\/j=3\/j=4\/j=5\/j=6\/j=7:=by omega
 all_goals rfl
theorem Zr(s:St8)(b:List UInt8){t:Nat}(ht:t<8):(qQ s b).list.take (t+1)=(qQ s b).list.take t++ [s.list.getD t 0+(kB b s 64).list.getD t 0]:=by
 unfold qQ
 obtain⟨r,hr⟩:∃r,kB b s 64=r:=⟨_,rfl⟩
 rw [hr]
 obtain rfl|rfl|rfl|rfl|rfl|rfl|rfl|rfl:t=0\/t=1\/t=2\/t=3\/t=4\/t=5\/t=6\/t=7:=by omega
 all_goals rfl
def j2a(w:World)(g:Nat)(x:St8):World:=(((((((w.setCell ⟨g,0,none⟩ (W32 x.a)).setCell ⟨g,1,none⟩ (W32 x.b)).setCell ⟨g,2,none⟩ (W32 x.c)).setCell ⟨g,3,none⟩ (W32 x.d)).setCell ⟨g,4,none⟩ (W32 x.e)).setCell ⟨g,5,none⟩ (W32 x.f)).setCell ⟨g,6,none⟩ (W32 x.g)).setCell ⟨g,7,none⟩ (W32 x.h)
theorem UO{w:World}{p:Nat}{a b c d e f g h:Value}{t:TypeId}(x:St8)(hh:w.heap[p]?=some (.cells #[a,b,c,d,e,f,g,h] t (0,0))):(j2a w p x).heap[p]?=some (.cells x.cells t (0,0)):=by
 have h1:=kZ (o:=0) (v:=W32 x.a) hh
 simp only [Array.set!_eq_setIfInBounds,List.setIfInBounds_toArray,List.set_cons_zero]at h1
 have h2:=kZ (o:=1) (v:=W32 x.b) h1
 simp only [Array.set!_eq_setIfInBounds,List.setIfInBounds_toArray,List.set_cons_succ,List.set_cons_zero]at h2
 have h3:=kZ (o:=2) (v:=W32 x.c) h2
 simp only [Array.set!_eq_setIfInBounds,List.setIfInBounds_toArray,List.set_cons_succ,List.set_cons_zero]at h3
 have h4:=kZ (o:=3) (v:=W32 x.d) h3
 simp only [Array.set!_eq_setIfInBounds,List.setIfInBounds_toArray,List.set_cons_succ,List.set_cons_zero]at h4
 have h5:=kZ (o:=4) (v:=W32 x.e) h4
 simp only [Array.set!_eq_setIfInBounds,List.setIfInBounds_toArray,List.set_cons_succ,List.set_cons_zero]at h5
 have h6:=kZ (o:=5) (v:=W32 x.f) h5
 simp only [Array.set!_eq_setIfInBounds,List.setIfInBounds_toArray,List.set_cons_succ,List.set_cons_zero]at h6
 have h7:=kZ (o:=6) (v:=W32 x.g) h6
 simp only [Array.set!_eq_setIfInBounds,List.setIfInBounds_toArray,List.set_cons_succ,List.set_cons_zero]at h7
 have h8:=kZ (o:=7) (v:=W32 x.h) h7
 simp only [Array.set!_eq_setIfInBounds,List.setIfInBounds_toArray,List.set_cons_succ,List.set_cons_zero]at h8
 exact h8
theorem XU{w w':World}{B g:Nat}{x:St8}(h:Below B w w')(hg:B<=g):Below B w (j2a w' g x):=(((((((h.setCell hg _).setCell hg _).setCell hg _).setCell hg _).setCell hg _).setCell hg _).setCell hg _).setCell hg _
theorem JR(s:St8)(b:List UInt8)(vs vb:Value)(S S':Nat->Prop)(w:World)(hK:KD w)(hs:StS w S vs s)(hb:BsS w S' vb b)(hl:b.length=64):
 Calls Tryz.prog 99 #[vs,vb] w fun e w'=>∃v',e=.returned (.tuple #[v',.int .i64 0])/\StS w' (New w w') v' (qQ s b)/\Below w.heap.size w w':=by
 obtain⟨gs,rfl,_,hgs⟩:=hs
 obtain⟨bn,cb,rfl,hbc,hbc2,_,hcell⟩:=hb
 rw [hl]at hbc hcell |-
 obtain⟨bb,bo,rfl,⟨_,hbl⟩,hcell⟩:∃bb bo,bn=some ⟨bb,bo,none⟩/\(S' bb/\bb<w.heap.size)/\∀j,j<64->w.cell? ⟨bb,bo+j,none⟩=some (U8 (gb b j)):=by
  obtain⟨bb,bo,h1,h2,h3⟩:=hcell (by omega)
  exact⟨bb,bo,h1,⟨h2,block_lt_of_cell (h3 0 (by omega))⟩,h3⟩
 have HGS:=Lib.hid hgs;have HCB:=Lib.hid hcell;have HK:=Lib.hid hK
 have HM:=j0r
 have HA8:=j0e
 have hgl:=(Array.getElem?_eq_some_iff.1 hgs).1
 obtain⟨w0,hw0⟩:∃w0,w0=w.alloc (.cells #[.int .u32 0,.int .u32 0,.int .u32 0,.int .u32 0,.int .u32 0,.int .u32 0,.int .u32 0,.int .u32 0,.int .u32 0,.int .u32 0,.int .u32 0,.int .u32 0,.int .u32 0,.int .u32 0,.int .u32 0,.int .u32 0,.int .u32 0,.int .u32 0,.int .u32 0,.int .u32 0,.int .u32 0,.int .u32 0,.int .u32 0,.int .u32 0,.int .u32 0,.int .u32 0,.int .u32 0,.int .u32 0,.int .u32 0,.int .u32 0,.int .u32 0,.int .u32 0,.int .u32 0,.int .u32 0,.int .u32 0,.int .u32 0,.int .u32 0,.int .u32 0,.int .u32 0,.int .u32 0,.int .u32 0,.int .u32 0,.int .u32 0,.int .u32 0,.int .u32 0,.int .u32 0,.int .u32 0,.int .u32 0,.int .u32 0,.int .u32 0,.int .u32 0,.int .u32 0,.int .u32 0,.int .u32 0,.int .u32 0,.int .u32 0,.int .u32 0,.int .u32 0,.int .u32 0,.int .u32 0,.int .u32 0,.int .u32 0,.int .u32 0,.int .u32 0] 142):=⟨_,rfl⟩
 have hB0:Below w.heap.size w w0:=by rw [hw0];exact(Below.refl _ _).alloc (Nat.le_refl _) _
 have hh0:w0.heap[w.heap.size]?=some (.cells (JB 64 []) 142 (0,0)):=by rw [hw0];exact heap_alloc_new _ _
 have HW0:=Lib.hid hw0;have HB0:=Lib.hid hB0;have HH0:=Lib.hid hh0
 clear hgs hcell hK hw0 hB0 hh0
 go_enter Tryz.func99,Tryz.ntmps99
 go_upto_region 5 with fail
 rw [<-HW0.out]
 clear HW0
 go_wp2_with fail
 go_loopg [27] 64 (fun m0 iv wr=>∃t m:Nat,m=m0/\t+m=64/\iv=.int .i64 t/\Hid (wr.heap[w.heap.size]?=some (.cells (JB 64 (jB b t)) 142 (0,0)))/\Below w.heap.size w wr)
 case atStart=>exact⟨0,64,rfl,rfl,rfl,HH0,HB0.out⟩
 case round=>
  obtain⟨t,m,rfl,htm,rfl,HWB,hbr⟩:=hrel
  by_cases hm0:m=0
  ·subst hm0
   obtain rfl:t=64:=by omega
   clear htm
   obtain⟨wo,rfl⟩:∃wo:World,wo=wr:=⟨_,rfl⟩
   have hgso:=(hbr.block gs hgl).trans HGS.out
   obtain⟨s0,s1,s2,s3,s4,s5,s6,s7,_⟩:=qj hgso
   have HBR:=Lib.hid hbr
   have HSZ:=Lib.hid hbr.size
   clear hbr hgso
   go_upto_region 14 with fail
   obtain⟨w2,hw2⟩:∃w2,w2=wo.alloc (.cells #[W32 s.a,W32 s.b,W32 s.c,W32 s.d,W32 s.e,W32 s.f,W32 s.g,W32 s.h] 144):=⟨_,rfl⟩
   rw [<-hw2]
   have HW2:Hid (w2.heap[wo.heap.size]?=some (.cells (kB b s 0).cells 144 (0,0))/\Below wo.heap.size wo w2):=Lib.hid ⟨by rw [hw2];exact heap_alloc_new _ _,by rw [hw2];exact(Below.refl _ _).alloc (Nat.le_refl _) _⟩
   clear hw2 s0 s1 s2 s3 s4 s5 s6 s7
   go_wp2_with fail
   go_loopg [78] 64 (fun m0 iv wr=>∃t m:Nat,m=m0/\t+m=64/\iv=.int .i64 t/\Hid (wr.heap[wo.heap.size]?=some (.cells (kB b s t).cells 144 (0,0)))/\Below wo.heap.size wo wr)
   case atStart=>exact⟨0,64,rfl,rfl,rfl,HW2.out.1,HW2.out.2⟩
   case round=>
    obtain⟨t,m,rfl,htm,rfl,HVB,hbw⟩:=hrel
    have HBW:=Lib.hid hbw
    clear hbw
    by_cases hm0:m=0
    ·subst hm0
     obtain rfl:t=64:=by omega
     clear htm
     obtain⟨wb,rfl⟩:∃wb:World,wb=wr:=⟨_,rfl⟩
     go_upto_region 23 with fail
     obtain⟨w3,hw3⟩:∃w3,w3=wb.alloc (.cells #[.int .u32 0,.int .u32 0,.int .u32 0,.int .u32 0,.int .u32 0,.int .u32 0,.int .u32 0,.int .u32 0] 113):=⟨_,rfl⟩
     rw [<-hw3]
     have HW3:Hid (w3.heap[wb.heap.size]?=some (.cells (JB 8 []) 113 (0,0))/\Below wb.heap.size wb w3):=Lib.hid ⟨by rw [hw3];exact heap_alloc_new _ _,by rw [hw3];exact(Below.refl _ _).alloc (Nat.le_refl _) _⟩
     clear hw3
     go_wp2_with fail
     go_loopg [155] 8 (fun m0 iv wr=>∃t m:Nat,m=m0/\t+m=8/\iv=.int .i64 t/\Hid (wr.heap[wb.heap.size]?=some (.cells (JB 8 ((qQ s b).list.take t)) 113 (0,0)))/\Below wb.heap.size wb wr)
     case atStart=>exact⟨0,8,rfl,rfl,rfl,HW3.out.1,HW3.out.2⟩
     case round=>
      obtain⟨t,m,rfl,htm,rfl,HOB,hbo⟩:=hrel
      have HBO:=Lib.hid hbo
      clear hbo
      by_cases hm0:m=0
      ·subst hm0
       obtain rfl:t=8:=by omega
       clear htm
       go_wp2_with fail
       go_ret2
       have hsz:=HBW.out.size
       have hszo:=HSZ.out
       have hlt:=(Array.getElem?_eq_some_iff.1 HOB.out).1
       refine⟨_,rfl,⟨wb.heap.size,rfl,⟨by omega,hlt⟩,HOB.out⟩,HBR.out.trans ((HBW.out.trans (HBO.out.mono hsz)).mono hszo)⟩
      ·obtain⟨m,rfl⟩:∃k,m=k+1:=⟨m - 1,by omega⟩
       have ht8:t<8:=by omega
       have htl:(t:Int)<8:=by omega
       have hbWo:=HBW.out.trans (HBO.out.mono HBW.out.size)
       obtain⟨x,hx⟩:∃x,s.list.getD t 0=x:=⟨_,rfl⟩
       obtain⟨y,hy⟩:∃y,(kB b s 64).list.getD t 0=y:=⟨_,rfl⟩
       have cx:wr.cell? ⟨gs,t,none⟩=some (W32 x):=by
        rw [<-hx]
        exact xd ((hbWo.block gs (Nat.lt_of_lt_of_le hgl HSZ.out)).trans ((HBR.out.block gs hgl).trans HGS.out)) ht8
       have cy:wr.cell? ⟨wo.heap.size,t,none⟩=some (W32 y):=by
        rw [<-hy]
        exact xd ((HBO.out.block wo.heap.size (Array.getElem?_eq_some_iff.1 HVB.out).1).trans HVB.out) ht8
       have HL8:Hid ((qQ s b).list.take (t+1)=(qQ s b).list.take t++ [x+y]):=Lib.hid (by
        rw [<-hx,<-hy]
        exact Zr s b ht8)
       have hlen:((qQ s b).list.take t).length=t:=by rw [List.length_take];exact Nat.min_eq_left (Nat.le_of_lt ht8)
       have HLEN:=Lib.hid hlen
       obtain⟨sc,sf⟩:=qt (by rw [hlen];exact ht8) HOB.out
       rw [hlen]at sc sf
       clear hx hy hlen hbWo
       go_upto_region 26 with fail
       refine wp_region_still_tail 11 (by kernel_rfl) (by kernel_rfl) ?_
       simp only [List.take_succ_cons,List.take_zero,List.drop_succ_cons,List.drop_zero]
       repeat(refine wpStill_step (fun K hK=> ?_);go_simp;(refine hK _ ?_;clear hK K))
       refine wpStill_nil ?_
       go_wp2_with fail
       go_roundg m
       case measure=>omega
       case rel=>exact⟨t+1,m,rfl,by omega,by go_num,Lib.hid (by
        rw [HL8.out]
        have h:=qs (w:=wr.drew) (x:=x+y) (by rw [HLEN.out];exact ht8) HOB.out
        rw [HLEN.out]at h
        exact h),(HBO.out.drew).setCell (p:=⟨wb.heap.size,t,none⟩) (Nat.le_refl _) _⟩
    ·obtain⟨m,rfl⟩:∃k,m=k+1:=⟨m - 1,by omega⟩
     have ht64:t<64:=by omega
     have htl:(t:Int)<64:=by omega
     have HT64:=Lib.hid htl
     obtain⟨k,hk⟩:∃k,YN.getD t 0=k:=⟨_,rfl⟩
     obtain⟨wt,hwt⟩:∃k,(jB b 64).getD t 0=k:=⟨_,rfl⟩
     have HKW:Hid (YN.getD t 0=k/\(jB b 64).getD t 0=wt):=Lib.hid ⟨hk,hwt⟩
     obtain⟨⟨ra,rb,rc,rd,re,rf,rg,rh⟩,hrs⟩:∃r,kB b s t=r:=⟨_,rfl⟩
     have HRS:=Lib.hid hrs
     rw [hrs]at HVB
     have HV:Hid (∀W,Below wr.heap.size wr W->W.cell? ⟨wo.heap.size,0,none⟩=some (W32 ra)/\W.cell? ⟨wo.heap.size,1,none⟩=some (W32 rb)/\W.cell? ⟨wo.heap.size,2,none⟩=some (W32 rc)/\W.cell? ⟨wo.heap.size,3,none⟩=some (W32 rd)/\W.cell? ⟨wo.heap.size,4,none⟩=some (W32 re)/\W.cell? ⟨wo.heap.size,5,none⟩=some (W32 rf)/\W.cell? ⟨wo.heap.size,6,none⟩=some (W32 rg)/\W.cell? ⟨wo.heap.size,7,none⟩=some (W32 rh)/\W.cell? ⟨0,t,none⟩=some (W32 k)/\W.cell? ⟨w.heap.size,t,none⟩=some (W32 wt)):=Lib.hid (fun W h=>by
      obtain⟨p0,p1,p2,p3,p4,p5,p6,p7,_⟩:=qj ((h.block wo.heap.size (Array.getElem?_eq_some_iff.1 HVB.out).1).trans HVB.out)
      have hbWo:Below wo.heap.size wo W:=HBW.out.trans (h.mono HBW.out.size)
      refine⟨p0,p1,p2,p3,p4,p5,p6,p7,?_,?_⟩
      ·rw [<-hk];exact(HK.out.below (HBR.out.trans (hbWo.mono HSZ.out)) HK.out.lt t ht64)
      ·rw [<-hwt];exact(hbWo.cell (p:=⟨w.heap.size,t,none⟩) (Array.getElem?_eq_some_iff.1 HWB.out).1).trans (ku HWB.out (by rw [j7];exact ht64)))
     obtain⟨p0,_,_,_,p4,_⟩:=HV.out wr (Below.refl _ _)
     clear hk hwt hrs ht64
     go_upto_region 17 with fail
     go_quiet (fail)
     clear p0 p4
     go_upto_region 18 with fail
     refine jg 26 [some 85,some 86,some 87,some 88,some 89,some 90,some 91,some 92,some 93,some 94,some 95,some 96,some 97,some 98,some 99,some 100,some 101,some 102,some 103,some 104,some 105,some 106,some 107,some 108,some 109,some 110] [[],[0],[],[],[],[2,3,4],[0,1,2,3,4,5],[],[],[8],[7,8,9],[],[11],[],[13],[11,12,13,14],[7,8,9,10,11,12,13,14,15],[0,1,2,3,4,5,6,7,8,9,10,11,12,13,14,15,16],[],[18],[18,19],[0,1,2,3,4,5,6,7,8,9,10,11,12,13,14,15,16,17,18,19,20],[],[22],[22,23],[0,1,2,3,4,5,6,7,8,9,10,11,12,13,14,15,16,17,18,19,20,21,22,23,24]]
      (fun _ _ w1=>Below wr.heap.size wr w1) (fun w1 w2=>Below w1.heap.size w1 w2)
      [fun v _=>v 0=.pointer (some ⟨wo.heap.size,7,none⟩),
       fun v _=>v 1=W32 rh,
       fun v _=>v 2=.func (.func 145) #[] #[],
       fun v _=>v 3=W32 re,
       fun v w1=>∃q,v 4=.slice (some ⟨q,0,none⟩) 3 3/\w1.heap[q]?=some (.cells #[.int .i64 6,.int .i64 11,.int .i64 25] 3 (0,0)),
       fun v _=>v 5=W32 (xt re 6 11 25),
       fun v _=>v 6=W32 (rh+xt re 6 11 25),
       fun v _=>v 7=W32 re,
       fun v _=>v 8=.pointer (some ⟨wo.heap.size,5,none⟩),
       fun v _=>v 9=W32 rf,
       fun v _=>v 10=W32 (re &&& rf),
       fun v _=>v 11=W32 re,
       fun v _=>v 12=W32 (ofW 4294967295 ^^^ re),
       fun v _=>v 13=.pointer (some ⟨wo.heap.size,6,none⟩),
       fun v _=>v 14=W32 rg,
       fun v _=>v 15=W32 ((ofW 4294967295 ^^^ re) &&& rg),
       fun v _=>v 16=W32 ((re &&& rf) ^^^ ((ofW 4294967295 ^^^ re) &&& rg)),
       fun v _=>v 17=W32 (rh+xt re 6 11 25+((re &&& rf) ^^^ ((ofW 4294967295 ^^^ re) &&& rg))),
       fun v _=>v 18=.int .i64 (t:Int),
       fun v _=>v 19=.pointer (some ⟨0,t,none⟩),
       fun v _=>v 20=W32 k,
       fun v _=>v 21=W32 (rh+xt re 6 11 25+((re &&& rf) ^^^ ((ofW 4294967295 ^^^ re) &&& rg))+k),
       fun v _=>v 22=.int .i64 (t:Int),
       fun v _=>v 23=.pointer (some ⟨w.heap.size,t,none⟩),
       fun v _=>v 24=W32 wt,
       fun v _=>v 25=W32 (rh+xt re 6 11 25+((re &&& rf) ^^^ ((ofW 4294967295 ^^^ re) &&& rg))+k+wt)]
      (by kernel_rfl) (by kernel_rfl) (fun _=>(jh (Below.refl _ _) nq).drew) ?st ?steps ?tail
     case st=>
      exact(.cons (fun _ _ _ _ _ _ h=>h) (.cons (fun _ _ _ _ _ _ h=>h) (.cons (fun _ _ _ _ _ _ h=>h) (.cons (fun _ _ _ _ _ _ h=>h) (.cons (fun _ _ _ _ _ hr ⟨q,e,h⟩=>⟨q,e,(hr.block q (Array.getElem?_eq_some_iff.1 h).1).trans h⟩) (.cons (fun _ _ _ _ _ _ h=>h) (.cons (fun _ _ _ _ _ _ h=>h) (.cons (fun _ _ _ _ _ _ h=>h) (.cons (fun _ _ _ _ _ _ h=>h) (.cons (fun _ _ _ _ _ _ h=>h) (.cons (fun _ _ _ _ _ _ h=>h) (.cons (fun _ _ _ _ _ _ h=>h) (.cons (fun _ _ _ _ _ _ h=>h) (.cons (fun _ _ _ _ _ _ h=>h) (.cons (fun _ _ _ _ _ _ h=>h) (.cons (fun _ _ _ _ _ _ h=>h) (.cons (fun _ _ _ _ _ _ h=>h) (.cons (fun _ _ _ _ _ _ h=>h) (.cons (fun _ _ _ _ _ _ h=>h) (.cons (fun _ _ _ _ _ _ h=>h) (.cons (fun _ _ _ _ _ _ h=>h) (.cons (fun _ _ _ _ _ _ h=>h) (.cons (fun _ _ _ _ _ _ h=>h) (.cons (fun _ _ _ _ _ _ h=>h) (.cons (fun _ _ _ _ _ _ h=>h) (.cons (fun _ _ _ _ _ _ h=>h) .nil))))))))))))))))))))))))))
     case steps=>
      simp only [List.take_succ_cons,List.take_zero]
      refine(.cons ?_ (.cons ?_ (.cons ?_ (.cons ?_ (.cons ?_ (.cons ?_ (.cons ?_ (.cons ?_ (.cons ?_ (.cons ?_ (.cons ?_ (.cons ?_ (.cons ?_ (.cons ?_ (.cons ?_ (.cons ?_ (.cons ?_ (.cons ?_ (.cons ?_ (.cons ?_ (.cons ?_ (.cons ?_ (.cons ?_ (.cons ?_ (.cons ?_ (.cons ?_ .nil))))))))))))))))))))))))))
      all_goals(intro L v w1 hJ hL hA hF K hK;simp only [ja,Act.put,Nat.zero_add,Nat.reduceAdd,List.setIfInBounds_toArray,List.set_cons_zero,List.set_cons_succ]at hK |-)
      ·go_simp
       refine hK _ _ hJ (Below.refl _ _) ?_
       first|exact rfl|exact j3 _
      ·have e0:v 0=.pointer (some ⟨wo.heap.size,7,none⟩):=hF 0 (hA 0 (by simp))
       obtain⟨p0,p1,p2,p3,p4,p5,p6,p7,pk,pw⟩:=HV.out _ hJ
       simp only [e0]at hK
       go_simp
       refine hK _ _ hJ (Below.refl _ _) ?_
       first|exact rfl|exact j3 _
      ·go_simp
       refine hK _ _ hJ (Below.refl _ _) ?_
       first|exact rfl|exact j3 _
      ·go_simp
       refine hK _ _ hJ (Below.refl _ _) ?_
       first|exact rfl|exact j3 _
      ·go_simp
       exact hK _ _ (hJ.alloc hJ.size _) ((Below.refl _ _).alloc (Nat.le_refl _) _) ⟨_,rfl,heap_alloc_new _ _⟩
      ·have e2:v 2=.func (.func 145) #[] #[]:=hF 2 (hA 2 (by simp))
       have e3:v 3=W32 re:=hF 3 (hA 3 (by simp))
       simp only [e2,e3]at hK
       obtain⟨q,e4,hq⟩:∃q,v 4=.slice (some ⟨q,0,none⟩) 3 3/\w1.heap[q]?=some (.cells #[.int .i64 6,.int .i64 11,.int .i64 25] 3 (0,0)):=hF 4 (hA 4 (by simp))
       simp only [e4]at hK
       go_simp
       refine(Jq re [6,11,25] q w1 (by simp) (by simp) hq).mono ?_
       rintro e w5 ⟨rfl,hw5⟩
       rw [hw5,j12]
       exact hK _ _ hJ (Below.refl _ _) rfl
      ·have e1:v 1=W32 rh:=hF 1 (hA 1 (by simp))
       have e5:v 5=W32 (xt re 6 11 25):=hF 5 (hA 5 (by simp))
       simp only [e1,e5]at hK
       go_simp
       refine hK _ _ hJ (Below.refl _ _) ?_
       first|exact rfl|exact j3 _
      ·go_simp
       refine hK _ _ hJ (Below.refl _ _) ?_
       first|exact rfl|exact j3 _
      ·go_simp
       refine hK _ _ hJ (Below.refl _ _) ?_
       first|exact rfl|exact j3 _
      ·have e8:v 8=.pointer (some ⟨wo.heap.size,5,none⟩):=hF 8 (hA 8 (by simp))
       obtain⟨p0,p1,p2,p3,p4,p5,p6,p7,pk,pw⟩:=HV.out _ hJ
       simp only [e8]at hK
       go_simp
       refine hK _ _ hJ (Below.refl _ _) ?_
       first|exact rfl|exact j3 _
      ·have e7:v 7=W32 re:=hF 7 (hA 7 (by simp))
       have e9:v 9=W32 rf:=hF 9 (hA 9 (by simp))
       simp only [e7,e9]at hK
       go_simp
       refine hK _ _ hJ (Below.refl _ _) ?_
       first|exact rfl|exact j3 _
      ·go_simp
       refine hK _ _ hJ (Below.refl _ _) ?_
       first|exact rfl|exact j3 _
      ·have e11:v 11=W32 re:=hF 11 (hA 11 (by simp))
       simp only [e11]at hK
       go_simp
       refine hK _ _ hJ (Below.refl _ _) ?_
       first|exact rfl|exact j3 _
      ·go_simp
       refine hK _ _ hJ (Below.refl _ _) ?_
       first|exact rfl|exact j3 _
      ·have e13:v 13=.pointer (some ⟨wo.heap.size,6,none⟩):=hF 13 (hA 13 (by simp))
       obtain⟨p0,p1,p2,p3,p4,p5,p6,p7,pk,pw⟩:=HV.out _ hJ
       simp only [e13]at hK
       go_simp
       refine hK _ _ hJ (Below.refl _ _) ?_
       first|exact rfl|exact j3 _
      ·have e12:v 12=W32 (ofW 4294967295 ^^^ re):=hF 12 (hA 12 (by simp))
       have e14:v 14=W32 rg:=hF 14 (hA 14 (by simp))
       simp only [e12,e14]at hK
       go_simp
       refine hK _ _ hJ (Below.refl _ _) ?_
       first|exact rfl|exact j3 _
      ·have e10:v 10=W32 (re &&& rf):=hF 10 (hA 10 (by simp))
       have e15:v 15=W32 ((ofW 4294967295 ^^^ re) &&& rg):=hF 15 (hA 15 (by simp))
       simp only [e10,e15]at hK
       go_simp
       refine hK _ _ hJ (Below.refl _ _) ?_
       first|exact rfl|exact j3 _
      ·have e6:v 6=W32 (rh+xt re 6 11 25):=hF 6 (hA 6 (by simp))
       have e16:v 16=W32 ((re &&& rf) ^^^ ((ofW 4294967295 ^^^ re) &&& rg)):=hF 16 (hA 16 (by simp))
       simp only [e6,e16]at hK
       go_simp
       refine hK _ _ hJ (Below.refl _ _) ?_
       first|exact rfl|exact j3 _
      ·go_simp
       refine hK _ _ hJ (Below.refl _ _) ?_
       first|exact rfl|exact j3 _
      ·have e18:v 18=.int .i64 (t:Int):=hF 18 (hA 18 (by simp))
       have h64:(t:Int)<64:=HT64.out
       simp only [e18]at hK
       go_simp
       refine hK _ _ hJ (Below.refl _ _) ?_
       first|exact rfl|exact j3 _
      ·have e19:v 19=.pointer (some ⟨0,t,none⟩):=hF 19 (hA 19 (by simp))
       obtain⟨p0,p1,p2,p3,p4,p5,p6,p7,pk,pw⟩:=HV.out _ hJ
       simp only [e19]at hK
       go_simp
       refine hK _ _ hJ (Below.refl _ _) ?_
       first|exact rfl|exact j3 _
      ·have e17:v 17=W32 (rh+xt re 6 11 25+((re &&& rf) ^^^ ((ofW 4294967295 ^^^ re) &&& rg))):=hF 17 (hA 17 (by simp))
       have e20:v 20=W32 k:=hF 20 (hA 20 (by simp))
       simp only [e17,e20]at hK
       go_simp
       refine hK _ _ hJ (Below.refl _ _) ?_
       first|exact rfl|exact j3 _
      ·go_simp
       refine hK _ _ hJ (Below.refl _ _) ?_
       first|exact rfl|exact j3 _
      ·have e22:v 22=.int .i64 (t:Int):=hF 22 (hA 22 (by simp))
       have h64:(t:Int)<64:=HT64.out
       simp only [e22]at hK
       go_simp
       refine hK _ _ hJ (Below.refl _ _) ?_
       first|exact rfl|exact j3 _
      ·have e23:v 23=.pointer (some ⟨w.heap.size,t,none⟩):=hF 23 (hA 23 (by simp))
       obtain⟨p0,p1,p2,p3,p4,p5,p6,p7,pk,pw⟩:=HV.out _ hJ
       simp only [e23]at hK
       go_simp
       refine hK _ _ hJ (Below.refl _ _) ?_
       first|exact rfl|exact j3 _
      ·have e21:v 21=W32 (rh+xt re 6 11 25+((re &&& rf) ^^^ ((ofW 4294967295 ^^^ re) &&& rg))+k):=hF 21 (hA 21 (by simp))
       have e24:v 24=W32 wt:=hF 24 (hA 24 (by simp))
       simp only [e21,e24]at hK
       go_simp
       refine hK _ _ hJ (Below.refl _ _) ?_
       first|exact rfl|exact j3 _
     case tail=>
      intro v w1 hJ hF
      have e0:v 0=.pointer (some ⟨wo.heap.size,7,none⟩):=hF 0 (by simp)
      have e1:v 1=W32 rh:=hF 1 (by simp)
      have e2:v 2=.func (.func 145) #[] #[]:=hF 2 (by simp)
      have e3:v 3=W32 re:=hF 3 (by simp)
      have e5:v 5=W32 (xt re 6 11 25):=hF 5 (by simp)
      have e6:v 6=W32 (rh+xt re 6 11 25):=hF 6 (by simp)
      have e7:v 7=W32 re:=hF 7 (by simp)
      have e8:v 8=.pointer (some ⟨wo.heap.size,5,none⟩):=hF 8 (by simp)
      have e9:v 9=W32 rf:=hF 9 (by simp)
      have e10:v 10=W32 (re &&& rf):=hF 10 (by simp)
      have e11:v 11=W32 re:=hF 11 (by simp)
      have e12:v 12=W32 (ofW 4294967295 ^^^ re):=hF 12 (by simp)
      have e13:v 13=.pointer (some ⟨wo.heap.size,6,none⟩):=hF 13 (by simp)
      have e14:v 14=W32 rg:=hF 14 (by simp)
      have e15:v 15=W32 ((ofW 4294967295 ^^^ re) &&& rg):=hF 15 (by simp)
      have e16:v 16=W32 ((re &&& rf) ^^^ ((ofW 4294967295 ^^^ re) &&& rg)):=hF 16 (by simp)
      have e17:v 17=W32 (rh+xt re 6 11 25+((re &&& rf) ^^^ ((ofW 4294967295 ^^^ re) &&& rg))):=hF 17 (by simp)
      have e18:v 18=.int .i64 (t:Int):=hF 18 (by simp)
      have e19:v 19=.pointer (some ⟨0,t,none⟩):=hF 19 (by simp)
      have e20:v 20=W32 k:=hF 20 (by simp)
      have e21:v 21=W32 (rh+xt re 6 11 25+((re &&& rf) ^^^ ((ofW 4294967295 ^^^ re) &&& rg))+k):=hF 21 (by simp)
      have e22:v 22=.int .i64 (t:Int):=hF 22 (by simp)
      have e23:v 23=.pointer (some ⟨w.heap.size,t,none⟩):=hF 23 (by simp)
      have e24:v 24=W32 wt:=hF 24 (by simp)
      have e25:v 25=W32 (rh+xt re 6 11 25+((re &&& rf) ^^^ ((ofW 4294967295 ^^^ re) &&& rg))+k+wt):=hF 25 (by simp)
      simp only [List.drop_succ_cons,List.drop_zero,ja,Act.put,Nat.zero_add,Nat.reduceAdd,List.setIfInBounds_toArray,List.set_cons_zero,List.set_cons_succ]
      simp only [e25]
      have H18:=Lib.hid hJ
      clear hJ hF e0 e1 e2 e3 e5 e6 e7 e8 e9 e10 e11 e12 e13 e14 e15 e16 e17 e18 e19 e20 e21 e22 e23 e24 e25
      go_upto_region 19 with fail
      refine jg 20 [some 111,some 112,some 113,some 114,some 115,some 116,some 117,some 118,some 119,some 120,some 121,some 122,some 123,some 124,some 125,some 126,some 127,some 128,some 129,some 130] [[],[],[],[0,1,2],[],[],[5],[4,5,6],[],[],[9],[8,9,10],[4,5,6,7,8,9,10,11],[],[13],[],[15],[13,14,15,16],[4,5,6,7,8,9,10,11,12,13,14,15,16,17],[0,1,2,3,4,5,6,7,8,9,10,11,12,13,14,15,16,17,18]]
       (fun _ _ w1=>Below wr.heap.size wr w1) (fun w1 w2=>Below w1.heap.size w1 w2)
       [fun v _=>v 0=.func (.func 145) #[] #[],
        fun v _=>v 1=W32 ra,
        fun v w1=>∃q,v 2=.slice (some ⟨q,0,none⟩) 3 3/\w1.heap[q]?=some (.cells #[.int .i64 2,.int .i64 13,.int .i64 22] 3 (0,0)),
        fun v _=>v 3=W32 (xt ra 2 13 22),
        fun v _=>v 4=W32 ra,
        fun v _=>v 5=.pointer (some ⟨wo.heap.size,1,none⟩),
        fun v _=>v 6=W32 rb,
        fun v _=>v 7=W32 (ra &&& rb),
        fun v _=>v 8=W32 ra,
        fun v _=>v 9=.pointer (some ⟨wo.heap.size,2,none⟩),
        fun v _=>v 10=W32 rc,
        fun v _=>v 11=W32 (ra &&& rc),
        fun v _=>v 12=W32 ((ra &&& rb) ^^^ (ra &&& rc)),
        fun v _=>v 13=.pointer (some ⟨wo.heap.size,1,none⟩),
        fun v _=>v 14=W32 rb,
        fun v _=>v 15=.pointer (some ⟨wo.heap.size,2,none⟩),
        fun v _=>v 16=W32 rc,
        fun v _=>v 17=W32 (rb &&& rc),
        fun v _=>v 18=W32 ((ra &&& rb) ^^^ (ra &&& rc) ^^^ (rb &&& rc)),
        fun v _=>v 19=W32 (xt ra 2 13 22+((ra &&& rb) ^^^ (ra &&& rc) ^^^ (rb &&& rc)))]
       (by kernel_rfl) (by kernel_rfl) (fun _=>H18.out.drew) ?st ?steps ?tail
      case st=>
       exact(.cons (fun _ _ _ _ _ _ h=>h) (.cons (fun _ _ _ _ _ _ h=>h) (.cons (fun _ _ _ _ _ hr ⟨q,e,h⟩=>⟨q,e,(hr.block q (Array.getElem?_eq_some_iff.1 h).1).trans h⟩) (.cons (fun _ _ _ _ _ _ h=>h) (.cons (fun _ _ _ _ _ _ h=>h) (.cons (fun _ _ _ _ _ _ h=>h) (.cons (fun _ _ _ _ _ _ h=>h) (.cons (fun _ _ _ _ _ _ h=>h) (.cons (fun _ _ _ _ _ _ h=>h) (.cons (fun _ _ _ _ _ _ h=>h) (.cons (fun _ _ _ _ _ _ h=>h) (.cons (fun _ _ _ _ _ _ h=>h) (.cons (fun _ _ _ _ _ _ h=>h) (.cons (fun _ _ _ _ _ _ h=>h) (.cons (fun _ _ _ _ _ _ h=>h) (.cons (fun _ _ _ _ _ _ h=>h) (.cons (fun _ _ _ _ _ _ h=>h) (.cons (fun _ _ _ _ _ _ h=>h) (.cons (fun _ _ _ _ _ _ h=>h) (.cons (fun _ _ _ _ _ _ h=>h) .nil))))))))))))))))))))
      case steps=>
       simp only [List.take_succ_cons,List.take_zero]
       refine(.cons ?_ (.cons ?_ (.cons ?_ (.cons ?_ (.cons ?_ (.cons ?_ (.cons ?_ (.cons ?_ (.cons ?_ (.cons ?_ (.cons ?_ (.cons ?_ (.cons ?_ (.cons ?_ (.cons ?_ (.cons ?_ (.cons ?_ (.cons ?_ (.cons ?_ (.cons ?_ .nil))))))))))))))))))))
       all_goals(intro L v w1 hJ hL hA hF K hK;simp only [ja,Act.put,Nat.zero_add,Nat.reduceAdd,List.setIfInBounds_toArray,List.set_cons_zero,List.set_cons_succ]at hK |-)
       ·go_simp
        refine hK _ _ hJ (Below.refl _ _) ?_
        first|exact rfl|exact j3 _
       ·go_simp
        refine hK _ _ hJ (Below.refl _ _) ?_
        first|exact rfl|exact j3 _
       ·go_simp
        exact hK _ _ (hJ.alloc hJ.size _) ((Below.refl _ _).alloc (Nat.le_refl _) _) ⟨_,rfl,heap_alloc_new _ _⟩
       ·have e0:v 0=.func (.func 145) #[] #[]:=hF 0 (hA 0 (by simp))
        have e1:v 1=W32 ra:=hF 1 (hA 1 (by simp))
        simp only [e0,e1]at hK
        obtain⟨q,e2,hq⟩:∃q,v 2=.slice (some ⟨q,0,none⟩) 3 3/\w1.heap[q]?=some (.cells #[.int .i64 2,.int .i64 13,.int .i64 22] 3 (0,0)):=hF 2 (hA 2 (by simp))
        simp only [e2]at hK
        go_simp
        refine(Jq ra [2,13,22] q w1 (by simp) (by simp) hq).mono ?_
        rintro e w5 ⟨rfl,hw5⟩
        rw [hw5,j12]
        exact hK _ _ hJ (Below.refl _ _) rfl
       ·go_simp
        refine hK _ _ hJ (Below.refl _ _) ?_
        first|exact rfl|exact j3 _
       ·go_simp
        refine hK _ _ hJ (Below.refl _ _) ?_
        first|exact rfl|exact j3 _
       ·have e5:v 5=.pointer (some ⟨wo.heap.size,1,none⟩):=hF 5 (hA 5 (by simp))
        obtain⟨p0,p1,p2,p3,p4,p5,p6,p7,pk,pw⟩:=HV.out _ hJ
        simp only [e5]at hK
        go_simp
        refine hK _ _ hJ (Below.refl _ _) ?_
        first|exact rfl|exact j3 _
       ·have e4:v 4=W32 ra:=hF 4 (hA 4 (by simp))
        have e6:v 6=W32 rb:=hF 6 (hA 6 (by simp))
        simp only [e4,e6]at hK
        go_simp
        refine hK _ _ hJ (Below.refl _ _) ?_
        first|exact rfl|exact j3 _
       ·go_simp
        refine hK _ _ hJ (Below.refl _ _) ?_
        first|exact rfl|exact j3 _
       ·go_simp
        refine hK _ _ hJ (Below.refl _ _) ?_
        first|exact rfl|exact j3 _
       ·have e9:v 9=.pointer (some ⟨wo.heap.size,2,none⟩):=hF 9 (hA 9 (by simp))
        obtain⟨p0,p1,p2,p3,p4,p5,p6,p7,pk,pw⟩:=HV.out _ hJ
        simp only [e9]at hK
        go_simp
        refine hK _ _ hJ (Below.refl _ _) ?_
        first|exact rfl|exact j3 _
       ·have e8:v 8=W32 ra:=hF 8 (hA 8 (by simp))
        have e10:v 10=W32 rc:=hF 10 (hA 10 (by simp))
        simp only [e8,e10]at hK
        go_simp
        refine hK _ _ hJ (Below.refl _ _) ?_
        first|exact rfl|exact j3 _
       ·have e7:v 7=W32 (ra &&& rb):=hF 7 (hA 7 (by simp))
        have e11:v 11=W32 (ra &&& rc):=hF 11 (hA 11 (by simp))
        simp only [e7,e11]at hK
        go_simp
        refine hK _ _ hJ (Below.refl _ _) ?_
        first|exact rfl|exact j3 _
       ·go_simp
        refine hK _ _ hJ (Below.refl _ _) ?_
        first|exact rfl|exact j3 _
       ·have e13:v 13=.pointer (some ⟨wo.heap.size,1,none⟩):=hF 13 (hA 13 (by simp))
        obtain⟨p0,p1,p2,p3,p4,p5,p6,p7,pk,pw⟩:=HV.out _ hJ
        simp only [e13]at hK
        go_simp
        refine hK _ _ hJ (Below.refl _ _) ?_
        first|exact rfl|exact j3 _
       ·go_simp
        refine hK _ _ hJ (Below.refl _ _) ?_
        first|exact rfl|exact j3 _
       ·have e15:v 15=.pointer (some ⟨wo.heap.size,2,none⟩):=hF 15 (hA 15 (by simp))
        obtain⟨p0,p1,p2,p3,p4,p5,p6,p7,pk,pw⟩:=HV.out _ hJ
        simp only [e15]at hK
        go_simp
        refine hK _ _ hJ (Below.refl _ _) ?_
        first|exact rfl|exact j3 _
       ·have e14:v 14=W32 rb:=hF 14 (hA 14 (by simp))
        have e16:v 16=W32 rc:=hF 16 (hA 16 (by simp))
        simp only [e14,e16]at hK
        go_simp
        refine hK _ _ hJ (Below.refl _ _) ?_
        first|exact rfl|exact j3 _
       ·have e12:v 12=W32 ((ra &&& rb) ^^^ (ra &&& rc)):=hF 12 (hA 12 (by simp))
        have e17:v 17=W32 (rb &&& rc):=hF 17 (hA 17 (by simp))
        simp only [e12,e17]at hK
        go_simp
        refine hK _ _ hJ (Below.refl _ _) ?_
        first|exact rfl|exact j3 _
       ·have e3:v 3=W32 (xt ra 2 13 22):=hF 3 (hA 3 (by simp))
        have e18:v 18=W32 ((ra &&& rb) ^^^ (ra &&& rc) ^^^ (rb &&& rc)):=hF 18 (hA 18 (by simp))
        simp only [e3,e18]at hK
        go_simp
        refine hK _ _ hJ (Below.refl _ _) ?_
        first|exact rfl|exact j3 _
      case tail=>
       intro v w1 hJ hF
       have e0:v 0=.func (.func 145) #[] #[]:=hF 0 (by simp)
       have e1:v 1=W32 ra:=hF 1 (by simp)
       have e3:v 3=W32 (xt ra 2 13 22):=hF 3 (by simp)
       have e4:v 4=W32 ra:=hF 4 (by simp)
       have e5:v 5=.pointer (some ⟨wo.heap.size,1,none⟩):=hF 5 (by simp)
       have e6:v 6=W32 rb:=hF 6 (by simp)
       have e7:v 7=W32 (ra &&& rb):=hF 7 (by simp)
       have e8:v 8=W32 ra:=hF 8 (by simp)
       have e9:v 9=.pointer (some ⟨wo.heap.size,2,none⟩):=hF 9 (by simp)
       have e10:v 10=W32 rc:=hF 10 (by simp)
       have e11:v 11=W32 (ra &&& rc):=hF 11 (by simp)
       have e12:v 12=W32 ((ra &&& rb) ^^^ (ra &&& rc)):=hF 12 (by simp)
       have e13:v 13=.pointer (some ⟨wo.heap.size,1,none⟩):=hF 13 (by simp)
       have e14:v 14=W32 rb:=hF 14 (by simp)
       have e15:v 15=.pointer (some ⟨wo.heap.size,2,none⟩):=hF 15 (by simp)
       have e16:v 16=W32 rc:=hF 16 (by simp)
       have e17:v 17=W32 (rb &&& rc):=hF 17 (by simp)
       have e18:v 18=W32 ((ra &&& rb) ^^^ (ra &&& rc) ^^^ (rb &&& rc)):=hF 18 (by simp)
       have e19:v 19=W32 (xt ra 2 13 22+((ra &&& rb) ^^^ (ra &&& rc) ^^^ (rb &&& rc))):=hF 19 (by simp)
       simp only [List.drop_succ_cons,List.drop_zero,ja,Act.put,Nat.zero_add,Nat.reduceAdd,List.setIfInBounds_toArray,List.set_cons_zero,List.set_cons_succ]
       simp only [e19]
       have H19:=Lib.hid hJ
       have hv19:=(hJ.block wo.heap.size (Array.getElem?_eq_some_iff.1 HVB.out).1).trans HVB.out
       have HV19:=Lib.hid hv19
       obtain⟨p0,p1,p2,p3,p4,p5,p6,p7,pf⟩:=qj hv19
       have pf0:=pf 0;have pf1:=pf 1;have pf2:=pf 2;have pf3:=pf 3;have pf4:=pf 4;have pf5:=pf 5;have pf6:=pf 6;have pf7:=pf 7
       clear hJ hF hv19 pf
       go_wp2_with fail
       go_roundg m
       case measure=>omega
       case rel=>exact⟨t+1,m,rfl,by omega,by go_num,Lib.hid (by
        rw [kB,HRS.out,HKW.out.1,HKW.out.2]
        exact UO ⟨rh+xt re 6 11 25+((re &&& rf) ^^^ ((ofW 4294967295 ^^^ re) &&& rg))+k+wt+(xt ra 2 13 22+((ra &&& rb) ^^^ (ra &&& rc) ^^^ (rb &&& rc))),ra,rb,rc,rd+(rh+xt re 6 11 25+((re &&& rf) ^^^ ((ofW 4294967295 ^^^ re) &&& rg))+k+wt),re,rf,rg⟩ HV19.out),XU (x:=⟨rh+xt re 6 11 25+((re &&& rf) ^^^ ((ofW 4294967295 ^^^ re) &&& rg))+k+wt+(xt ra 2 13 22+((ra &&& rb) ^^^ (ra &&& rc) ^^^ (rb &&& rc))),ra,rb,rc,rd+(rh+xt re 6 11 25+((re &&& rf) ^^^ ((ofW 4294967295 ^^^ re) &&& rg))+k+wt),re,rf,rg⟩) (HBW.out.trans (H19.out.mono HBW.out.size)) (Nat.le_refl _)⟩
  ·obtain⟨m,rfl⟩:∃k,m=k+1:=⟨m - 1,by omega⟩
   have ht64:t<64:=by omega
   have htl:(t:Int)<64:=by omega
   by_cases h16:t<16
   ·have hd16:(t:Int)<16:=by omega
    have hq:∀i,i<4->wr.cell? ⟨bb,bo+4*t+i,none⟩=some (U8 (gb b (4*t+i))):=fun i hi=>by
     rw [Nat.add_assoc]
     exact(hbr.cell (p:=⟨bb,bo+(4*t+i),none⟩) hbl).trans (HCB.out (4*t+i) (by omega))
    have HQ:=Lib.hid (UX bb (bo+4*t) (64 - 4*t) (cb - 4*t) _ _ _ _ wr (by omega) (hq 0 (by omega)) (hq 1 (by omega)) (hq 2 (by omega)) (hq 3 (by omega)))
    have HNX:Hid (Jb b (jB b t)=Z0 (gb b (4*t+0)) (gb b (4*t+1)) (gb b (4*t+2)) (gb b (4*t+3))):=Lib.hid (by
     unfold Jb;rw [j7,if_pos h16];rfl)
    have h4c:4*t<cb:=by omega
    have h4:(4:Int)*t<=64:=by omega
    obtain⟨sc,sf⟩:=qt (by rw [j7];exact ht64) HWB.out
    rw [j7]at sc sf
    clear hq
    go_wp2_with(go_at_call 147;refine HQ.out.mono ?_;rintro e w5 ⟨rfl,nd,rfl⟩)
    go_roundg m
    case measure=>omega
    case rel=>exact⟨t+1,m,rfl,by omega,by go_num,Lib.hid (by
     have h:=qs (w:=wr.drewN nd) (x:=Z0 (gb b (4*t+0)) (gb b (4*t+1)) (gb b (4*t+2)) (gb b (4*t+3))) (by rw [j7];exact ht64) HWB.out
     rw [j7]at h
     rw [jB,HNX.out];exact h),(jh hbr nd).setCell (p:=⟨w.heap.size,t,none⟩) (Nat.le_refl _) _⟩
   ·obtain⟨t15,q15⟩:∃k,t=k+15:=⟨t - 15,by omega⟩
    obtain⟨t2,q2⟩:∃k,t=k+2:=⟨t - 2,by omega⟩
    obtain⟨t7,q7⟩:∃k,t=k+7:=⟨t - 7,by omega⟩
    obtain⟨t16,q16⟩:∃k,t=k+16:=⟨t - 16,by omega⟩
    have W15:Value.int .i64 (IntKind.i64.wrap ((t:Int) - 15))=.int .i64 (t15:Int):=by rw [IntWalk.i64_in _ (by omega)];congr 1;omega
    have W2:Value.int .i64 (IntKind.i64.wrap ((t:Int) - 2))=.int .i64 (t2:Int):=by rw [IntWalk.i64_in _ (by omega)];congr 1;omega
    have W7:Hid (Value.int .i64 (IntKind.i64.wrap ((t:Int) - 7))=.int .i64 (t7:Int)):=Lib.hid (by rw [IntWalk.i64_in _ (by omega)];congr 1;omega)
    have W16:Hid (Value.int .i64 (IntKind.i64.wrap ((t:Int) - 16))=.int .i64 (t16:Int)):=Lib.hid (by rw [IntWalk.i64_in _ (by omega)];congr 1;omega)
    obtain⟨x,hx⟩:∃x,(jB b t).getD t15 0=x:=⟨_,rfl⟩
    obtain⟨y,hy⟩:∃x,(jB b t).getD t2 0=x:=⟨_,rfl⟩
    obtain⟨z7,hz7⟩:∃x,(jB b t).getD t7 0=x:=⟨_,rfl⟩
    obtain⟨z16,hz16⟩:∃x,(jB b t).getD t16 0=x:=⟨_,rfl⟩
    have c15:=ku HWB.out (j:=t15) (by rw [j7];omega)
    have c2:=ku HWB.out (j:=t2) (by rw [j7];omega)
    have c7:=ku HWB.out (j:=t7) (by rw [j7];omega)
    have c16:=ku HWB.out (j:=t16) (by rw [j7];omega)
    rw [hx]at c15
    rw [hy]at c2
    rw [hz7]at c7
    rw [hz16]at c16
    have hgw:=(Array.getElem?_eq_some_iff.1 HWB.out).1
    have C7:Hid (∀W nd,Below (wr.drewN nd).heap.size (wr.drewN nd) W->W.cell? ⟨w.heap.size,t7,none⟩=some (W32 z7)):=Lib.hid (fun W nd h=>(h.cell (p:=⟨w.heap.size,t7,none⟩) hgw).trans c7)
    have C16:Hid (∀W nd,Below (wr.drewN nd).heap.size (wr.drewN nd) W->W.cell? ⟨w.heap.size,t16,none⟩=some (W32 z16)):=Lib.hid (fun W nd h=>(h.cell (p:=⟨w.heap.size,t16,none⟩) hgw).trans c16)
    have HNX:Hid (Jb b (jB b t)=((j8 y 17 ^^^ j8 y 19) ^^^ (y / ofW 1024))+z7+((j8 x 7 ^^^ j8 x 18) ^^^ (x / ofW 8))+z16):=Lib.hid (by
     unfold Jb
     rw [j7,if_neg h16,show t - 2=t2 by omega,show t - 7=t7 by omega,show t - 15=t15 by omega,show t - 16=t16 by omega,hx,hy,hz7,hz16])
    have H7:Hid (t7<64):=Lib.hid (by omega)
    have H16:Hid (t16<64):=Lib.hid (by omega)
    have h15:t15<64:=by omega
    have h2:t2<64:=by omega
    have hd16:decide ((t:Int)<16)=false:=decide_eq_false (by omega)
    have HBR:=Lib.hid hbr
    clear hx hy hz7 hz16 c7 c16 hgw q15 q2 q7 q16 hbr
    go_upto_region 10 with fail
    go_quiet (fail)
    clear W15 W2 c15 c2
    go_upto_region 11 with fail
    refine jg 26 [some 47,some 48,some 49,some 50,some 51,some 52,some 53,some 54,some 55,some 56,some 57,some 58,some 59,some 60,some 61,some 62,some 63,some 64,some 65,some 66,some 67,some 68,some 69,some 70,some 71,some 72] [[],[],[],[],[1,2,3],[],[5],[1,2,3,4,5,6],[],[8],[8,9],[8,9,10],[1,2,3,4,5,6,7,8,9,10,11],[],[],[],[1,2,3,4,13,14,15],[],[17],[1,2,3,4,13,14,15,16,17,18],[1,2,3,4,5,6,7,8,9,10,11,12,13,14,15,16,17,18,19],[],[21],[21,22],[21,22,23],[1,2,3,4,5,6,7,8,9,10,11,12,13,14,15,16,17,18,19,20,21,22,23,24]]
     (fun _ _ w1=>Below (wr.drewN nq).heap.size (wr.drewN nq) w1) (fun w1 w2=>Below w1.heap.size w1 w2)
     [fun v _=>v 0=.int .i64 (t:Int),
      fun v _=>v 1=.func (.func 145) #[] #[],
      fun v _=>v 2=W32 y,
      fun v w1=>∃q,v 3=.slice (some ⟨q,0,none⟩) 2 2/\w1.heap[q]?=some (.cells #[.int .i64 17,.int .i64 19] 3 (0,0)),
      fun v _=>v 4=W32 (j8 y 17 ^^^ j8 y 19),
      fun v _=>v 5=W32 y,
      fun v _=>v 6=W32 (y / ofW 1024),
      fun v _=>v 7=W32 ((j8 y 17 ^^^ j8 y 19) ^^^ (y / ofW 1024)),
      fun v _=>v 8=.int .i64 (t:Int),
      fun v _=>v 9=.int .i64 (t7:Int),
      fun v _=>v 10=.pointer (some ⟨w.heap.size,t7,none⟩),
      fun v _=>v 11=W32 z7,
      fun v _=>v 12=W32 (((j8 y 17 ^^^ j8 y 19) ^^^ (y / ofW 1024))+z7),
      fun v _=>v 13=.func (.func 145) #[] #[],
      fun v _=>v 14=W32 x,
      fun v w1=>∃q,v 15=.slice (some ⟨q,0,none⟩) 2 2/\w1.heap[q]?=some (.cells #[.int .i64 7,.int .i64 18] 3 (0,0)),
      fun v _=>v 16=W32 (j8 x 7 ^^^ j8 x 18),
      fun v _=>v 17=W32 x,
      fun v _=>v 18=W32 (x / ofW 8),
      fun v _=>v 19=W32 ((j8 x 7 ^^^ j8 x 18) ^^^ (x / ofW 8)),
      fun v _=>v 20=W32 (((j8 y 17 ^^^ j8 y 19) ^^^ (y / ofW 1024))+z7+((j8 x 7 ^^^ j8 x 18) ^^^ (x / ofW 8))),
      fun v _=>v 21=.int .i64 (t:Int),
      fun v _=>v 22=.int .i64 (t16:Int),
      fun v _=>v 23=.pointer (some ⟨w.heap.size,t16,none⟩),
      fun v _=>v 24=W32 z16,
      fun v _=>v 25=W32 (((j8 y 17 ^^^ j8 y 19) ^^^ (y / ofW 1024))+z7+((j8 x 7 ^^^ j8 x 18) ^^^ (x / ofW 8))+z16)]
     (by kernel_rfl) (by kernel_rfl) (fun _=>(Below.refl _ _).drew) ?st ?steps ?tail
    case st=>
     exact(.cons (fun _ _ _ _ _ _ h=>h) (.cons (fun _ _ _ _ _ _ h=>h) (.cons (fun _ _ _ _ _ _ h=>h) (.cons (fun _ _ _ _ _ hr ⟨q,e,h⟩=>⟨q,e,(hr.block q (Array.getElem?_eq_some_iff.1 h).1).trans h⟩) (.cons (fun _ _ _ _ _ _ h=>h) (.cons (fun _ _ _ _ _ _ h=>h) (.cons (fun _ _ _ _ _ _ h=>h) (.cons (fun _ _ _ _ _ _ h=>h) (.cons (fun _ _ _ _ _ _ h=>h) (.cons (fun _ _ _ _ _ _ h=>h) (.cons (fun _ _ _ _ _ _ h=>h) (.cons (fun _ _ _ _ _ _ h=>h) (.cons (fun _ _ _ _ _ _ h=>h) (.cons (fun _ _ _ _ _ _ h=>h) (.cons (fun _ _ _ _ _ _ h=>h) (.cons (fun _ _ _ _ _ hr ⟨q,e,h⟩=>⟨q,e,(hr.block q (Array.getElem?_eq_some_iff.1 h).1).trans h⟩) (.cons (fun _ _ _ _ _ _ h=>h) (.cons (fun _ _ _ _ _ _ h=>h) (.cons (fun _ _ _ _ _ _ h=>h) (.cons (fun _ _ _ _ _ _ h=>h) (.cons (fun _ _ _ _ _ _ h=>h) (.cons (fun _ _ _ _ _ _ h=>h) (.cons (fun _ _ _ _ _ _ h=>h) (.cons (fun _ _ _ _ _ _ h=>h) (.cons (fun _ _ _ _ _ _ h=>h) (.cons (fun _ _ _ _ _ _ h=>h) .nil))))))))))))))))))))))))))
    case steps=>
     simp only [List.take_succ_cons,List.take_zero]
     refine(.cons ?_ (.cons ?_ (.cons ?_ (.cons ?_ (.cons ?_ (.cons ?_ (.cons ?_ (.cons ?_ (.cons ?_ (.cons ?_ (.cons ?_ (.cons ?_ (.cons ?_ (.cons ?_ (.cons ?_ (.cons ?_ (.cons ?_ (.cons ?_ (.cons ?_ (.cons ?_ (.cons ?_ (.cons ?_ (.cons ?_ (.cons ?_ (.cons ?_ (.cons ?_ .nil))))))))))))))))))))))))))
     all_goals(intro L v w1 hJ hL hA hF K hK;simp only [ja,Act.put,Nat.zero_add,Nat.reduceAdd,List.setIfInBounds_toArray,List.set_cons_zero,List.set_cons_succ]at hK |-)
     ·go_simp
      refine hK _ _ hJ (Below.refl _ _) ?_
      first|exact rfl|exact j3 _
     ·go_simp
      refine hK _ _ hJ (Below.refl _ _) ?_
      first|exact rfl|exact j3 _
     ·go_simp
      refine hK _ _ hJ (Below.refl _ _) ?_
      first|exact rfl|exact j3 _
     ·go_simp
      exact hK _ _ (hJ.alloc hJ.size _) ((Below.refl _ _).alloc (Nat.le_refl _) _) ⟨_,rfl,heap_alloc_new _ _⟩
     ·have e1:v 1=.func (.func 145) #[] #[]:=hF 1 (hA 1 (by simp))
      have e2:v 2=W32 y:=hF 2 (hA 2 (by simp))
      simp only [e1,e2]at hK
      obtain⟨q,e3,hq⟩:∃q,v 3=.slice (some ⟨q,0,none⟩) 2 2/\w1.heap[q]?=some (.cells #[.int .i64 17,.int .i64 19] 3 (0,0)):=hF 3 (hA 3 (by simp))
      simp only [e3]at hK
      go_simp
      refine(Jq y [17,19] q w1 (by simp) (by simp) hq).mono ?_
      rintro e w5 ⟨rfl,hw5⟩
      rw [hw5,j11]
      exact hK _ _ hJ (Below.refl _ _) rfl
     ·go_simp
      refine hK _ _ hJ (Below.refl _ _) ?_
      first|exact rfl|exact j3 _
     ·have e5:v 5=W32 y:=hF 5 (hA 5 (by simp))
      simp only [e5]at hK
      go_simp
      refine hK _ _ hJ (Below.refl _ _) ?_
      first|exact rfl|exact j3 _
     ·have e4:v 4=W32 (j8 y 17 ^^^ j8 y 19):=hF 4 (hA 4 (by simp))
      have e6:v 6=W32 (y / ofW 1024):=hF 6 (hA 6 (by simp))
      simp only [e4,e6]at hK
      go_simp
      refine hK _ _ hJ (Below.refl _ _) ?_
      first|exact rfl|exact j3 _
     ·go_simp
      refine hK _ _ hJ (Below.refl _ _) ?_
      first|exact rfl|exact j3 _
     ·have e8:v 8=.int .i64 (t:Int):=hF 8 (hA 8 (by simp))
      have W:=W7.out
      simp only [e8]at hK
      go_simp
      refine hK _ _ hJ (Below.refl _ _) ?_
      first|exact rfl|exact j3 _
     ·have e9:v 9=.int .i64 (t7:Int):=hF 9 (hA 9 (by simp))
      have h64:(t7:Int)<64:=(by have:=H7.out;omega)
      simp only [e9]at hK
      go_simp
      refine hK _ _ hJ (Below.refl _ _) ?_
      first|exact rfl|exact j3 _
     ·have e10:v 10=.pointer (some ⟨w.heap.size,t7,none⟩):=hF 10 (hA 10 (by simp))
      have c0:=C7.out _ _ hJ
      simp only [e10]at hK
      go_simp
      refine hK _ _ hJ (Below.refl _ _) ?_
      first|exact rfl|exact j3 _
     ·have e7:v 7=W32 ((j8 y 17 ^^^ j8 y 19) ^^^ (y / ofW 1024)):=hF 7 (hA 7 (by simp))
      have e11:v 11=W32 z7:=hF 11 (hA 11 (by simp))
      simp only [e7,e11]at hK
      go_simp
      refine hK _ _ hJ (Below.refl _ _) ?_
      first|exact rfl|exact j3 _
     ·go_simp
      refine hK _ _ hJ (Below.refl _ _) ?_
      first|exact rfl|exact j3 _
     ·go_simp
      refine hK _ _ hJ (Below.refl _ _) ?_
      first|exact rfl|exact j3 _
     ·go_simp
      exact hK _ _ (hJ.alloc hJ.size _) ((Below.refl _ _).alloc (Nat.le_refl _) _) ⟨_,rfl,heap_alloc_new _ _⟩
     ·have e13:v 13=.func (.func 145) #[] #[]:=hF 13 (hA 13 (by simp))
      have e14:v 14=W32 x:=hF 14 (hA 14 (by simp))
      simp only [e13,e14]at hK
      obtain⟨q,e15,hq⟩:∃q,v 15=.slice (some ⟨q,0,none⟩) 2 2/\w1.heap[q]?=some (.cells #[.int .i64 7,.int .i64 18] 3 (0,0)):=hF 15 (hA 15 (by simp))
      simp only [e15]at hK
      go_simp
      refine(Jq x [7,18] q w1 (by simp) (by simp) hq).mono ?_
      rintro e w5 ⟨rfl,hw5⟩
      rw [hw5,j11]
      exact hK _ _ hJ (Below.refl _ _) rfl
     ·go_simp
      refine hK _ _ hJ (Below.refl _ _) ?_
      first|exact rfl|exact j3 _
     ·have e17:v 17=W32 x:=hF 17 (hA 17 (by simp))
      simp only [e17]at hK
      go_simp
      refine hK _ _ hJ (Below.refl _ _) ?_
      first|exact rfl|exact j3 _
     ·have e16:v 16=W32 (j8 x 7 ^^^ j8 x 18):=hF 16 (hA 16 (by simp))
      have e18:v 18=W32 (x / ofW 8):=hF 18 (hA 18 (by simp))
      simp only [e16,e18]at hK
      go_simp
      refine hK _ _ hJ (Below.refl _ _) ?_
      first|exact rfl|exact j3 _
     ·have e12:v 12=W32 (((j8 y 17 ^^^ j8 y 19) ^^^ (y / ofW 1024))+z7):=hF 12 (hA 12 (by simp))
      have e19:v 19=W32 ((j8 x 7 ^^^ j8 x 18) ^^^ (x / ofW 8)):=hF 19 (hA 19 (by simp))
      simp only [e12,e19]at hK
      go_simp
      refine hK _ _ hJ (Below.refl _ _) ?_
      first|exact rfl|exact j3 _
     ·go_simp
      refine hK _ _ hJ (Below.refl _ _) ?_
      first|exact rfl|exact j3 _
     ·have e21:v 21=.int .i64 (t:Int):=hF 21 (hA 21 (by simp))
      have W:=W16.out
      simp only [e21]at hK
      go_simp
      refine hK _ _ hJ (Below.refl _ _) ?_
      first|exact rfl|exact j3 _
     ·have e22:v 22=.int .i64 (t16:Int):=hF 22 (hA 22 (by simp))
      have h64:(t16:Int)<64:=(by have:=H16.out;omega)
      simp only [e22]at hK
      go_simp
      refine hK _ _ hJ (Below.refl _ _) ?_
      first|exact rfl|exact j3 _
     ·have e23:v 23=.pointer (some ⟨w.heap.size,t16,none⟩):=hF 23 (hA 23 (by simp))
      have c0:=C16.out _ _ hJ
      simp only [e23]at hK
      go_simp
      refine hK _ _ hJ (Below.refl _ _) ?_
      first|exact rfl|exact j3 _
     ·have e20:v 20=W32 (((j8 y 17 ^^^ j8 y 19) ^^^ (y / ofW 1024))+z7+((j8 x 7 ^^^ j8 x 18) ^^^ (x / ofW 8))):=hF 20 (hA 20 (by simp))
      have e24:v 24=W32 z16:=hF 24 (hA 24 (by simp))
      simp only [e20,e24]at hK
      go_simp
      refine hK _ _ hJ (Below.refl _ _) ?_
      first|exact rfl|exact j3 _
    case tail=>
     intro v w1 hJ hF
     have e0:v 0=.int .i64 (t:Int):=hF 0 (by simp)
     have e1:v 1=.func (.func 145) #[] #[]:=hF 1 (by simp)
     have e2:v 2=W32 y:=hF 2 (by simp)
     have e4:v 4=W32 (j8 y 17 ^^^ j8 y 19):=hF 4 (by simp)
     have e5:v 5=W32 y:=hF 5 (by simp)
     have e6:v 6=W32 (y / ofW 1024):=hF 6 (by simp)
     have e7:v 7=W32 ((j8 y 17 ^^^ j8 y 19) ^^^ (y / ofW 1024)):=hF 7 (by simp)
     have e8:v 8=.int .i64 (t:Int):=hF 8 (by simp)
     have e9:v 9=.int .i64 (t7:Int):=hF 9 (by simp)
     have e10:v 10=.pointer (some ⟨w.heap.size,t7,none⟩):=hF 10 (by simp)
     have e11:v 11=W32 z7:=hF 11 (by simp)
     have e12:v 12=W32 (((j8 y 17 ^^^ j8 y 19) ^^^ (y / ofW 1024))+z7):=hF 12 (by simp)
     have e13:v 13=.func (.func 145) #[] #[]:=hF 13 (by simp)
     have e14:v 14=W32 x:=hF 14 (by simp)
     have e16:v 16=W32 (j8 x 7 ^^^ j8 x 18):=hF 16 (by simp)
     have e17:v 17=W32 x:=hF 17 (by simp)
     have e18:v 18=W32 (x / ofW 8):=hF 18 (by simp)
     have e19:v 19=W32 ((j8 x 7 ^^^ j8 x 18) ^^^ (x / ofW 8)):=hF 19 (by simp)
     have e20:v 20=W32 (((j8 y 17 ^^^ j8 y 19) ^^^ (y / ofW 1024))+z7+((j8 x 7 ^^^ j8 x 18) ^^^ (x / ofW 8))):=hF 20 (by simp)
     have e21:v 21=.int .i64 (t:Int):=hF 21 (by simp)
     have e22:v 22=.int .i64 (t16:Int):=hF 22 (by simp)
     have e23:v 23=.pointer (some ⟨w.heap.size,t16,none⟩):=hF 23 (by simp)
     have e24:v 24=W32 z16:=hF 24 (by simp)
     have e25:v 25=W32 (((j8 y 17 ^^^ j8 y 19) ^^^ (y / ofW 1024))+z7+((j8 x 7 ^^^ j8 x 18) ^^^ (x / ofW 8))+z16):=hF 25 (by simp)
     simp only [List.drop_succ_cons,List.drop_zero,ja,Act.put,Nat.zero_add,Nat.reduceAdd,List.setIfInBounds_toArray,List.set_cons_zero,List.set_cons_succ]
     have HJ:=Lib.hid hJ
     have hw2:w1.heap[w.heap.size]?=some (.cells (JB 64 (jB b t)) 142 (0,0)):=(hJ.block w.heap.size (Array.getElem?_eq_some_iff.1 HWB.out).1).trans HWB.out
     obtain⟨sc,sf⟩:=qt (by rw [j7];exact ht64) hw2
     rw [j7]at sc sf
     have HW2:=Lib.hid hw2
     simp only [e0,e25]
     clear hJ hF hw2
     go_wp2_with fail
     go_roundg m
     case measure=>omega
     case rel=>exact⟨t+1,m,rfl,by omega,by go_num,Lib.hid (by
      have h:=qs (x:=((j8 y 17 ^^^ j8 y 19) ^^^ (y / ofW 1024))+z7+((j8 x 7 ^^^ j8 x 18) ^^^ (x / ofW 8))+z16) (by rw [j7];exact ht64) HW2.out
      rw [j7]at h
      rw [jB,HNX.out];exact h),(((jh HBR.out nq).trans (HJ.out.mono HBR.out.size)).setCell (p:=⟨w.heap.size,t,none⟩) (Nat.le_refl _) _)⟩
end Go.Proofs.YtalmmiojbmpmiaaGreatDoor
