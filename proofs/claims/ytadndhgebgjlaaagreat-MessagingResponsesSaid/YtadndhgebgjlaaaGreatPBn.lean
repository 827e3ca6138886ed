/- made.Dice: words for Odd: a row of the call's own whose objects lie anywhere; the copy of a slice of objects -/
import Derived.Test.YtadndhgebgjlaaaGreatPBj
import Derived.Test.YtadndhgebgjlaaaGreatPs
set_option linter.unusedVariables false
set_option linter.unusedSimpArgs false
set_option linter.unnecessarySimpa false
namespace Go.Proofs.YtadndhgebgjlaaaGreat
open Go.RowKit Go.Deep
theorem Yn{w:World}{S:Nat->Prop}:∀(L:Ns) (b off:Nat),NsAt w S L b off->∃xs:List Value,EachN w S L xs/\xs.length=L.len*3/\(∀j u,xs[j]?=some u->w.cell? ⟨b,off+j,none⟩=some u)/\∀u∈xs,u.oneCell'=true:=by
 intro L
 induction L with
 |nil=>intro b off _;exact⟨[],rfl,by simp [Ns.len],by simp,by simp⟩
 |cons t v k r _ ih=>
  intro b off ⟨h1,h2,⟨x,h3,h4⟩,⟨ka,kc,h5,h6,h7,h8,h9⟩,h10⟩
  obtain⟨xs,g1,g2,g3,g4⟩:=ih b (off+3) h10
  obtain⟨xa,xc,rfl⟩:∃A c,x=.slice A v.length c:=by obtain⟨a,c,hv,_⟩:=h4;exact⟨a,c,hv⟩
  refine⟨.int .i64 t :: .slice xa v.length xc :: .slice ka k.len kc :: xs,⟨_,_,xs,rfl,h2,h4,⟨ka,kc,rfl,h6,h7,h8,h9⟩,g1⟩,by simp [Ns.len,g2];omega,fun j u hu=> ?_,fun u hu=> ?_⟩
  ·rcases j with _|_|_|j
   ·simp at hu;subst hu;exact h1
   ·simp at hu;subst hu;exact h3
   ·simp at hu;subst hu;exact h5
   ·have hu:xs[j]?=some u:=by simpa using hu
    have:=g3 j u hu
    rw [show off+(j+1+1+1)=off+3+j by omega]
    exact this
  ·simp only [List.mem_cons]at hu
   rcases hu with rfl|rfl|rfl|hu
   ·simp [Value.oneCell']
   ·simp [Value.oneCell']
   ·simp [Value.oneCell']
   ·exact g4 u hu
def j65(w:World)(base:Nat)(S:Nat->Prop)(o:Value)(L:Ns):Prop:=∃xs,w.ownsRow base 61 3 o L.len xs/\EachN w S L xs
theorem Xy{ops:Array Oper}{rest:List Oper}{op:Oper}{a:Act}{w:World}{Q:Exit->Act->World->Prop}(hgd:op.guard=none)(s x:Operand)
 (ho:op.op=.call {callee:=.builtin .append,args:=#[s,x],argTypes:=#[58,58]})
 (hs:a.eval s=.slice none 0 0) (L:Ns) (S:Nat->Prop) (b off c:Nat) (hl:0<L.len) (hb:L.len<=1000000000000) (hx:a.eval x=.slice (some ⟨b,off,none⟩) L.len c) (hat:NsAt w S L b off) (hS:S b) (hbl:b<w.heap.size)
 (h:∀o' w',j65 w' w.heap.size S o' L->Below w.heap.size w w'->wpList Tryz.prog ops Q rest (a.put op.dst o') w'):wpList Tryz.prog ops Q (op :: rest) a w:=by
 obtain⟨xs,g1,g2,g3,g4⟩:=Yn L b off hat
 obtain⟨i,hinfo,hzz⟩:=Option.map_eq_some_iff.1 zH
 simp only [Prod.mk.injEq]at hzz
 obtain⟨hz,hsize,hbb⟩:=hzz
 refine wpList_append_own_at (w:=w) hgd s x 58 ho w.heap.size 61 i _ 3 56 Tryz.underlying58 hinfo hz hsize hbb rfl (by omega) (.slice none 0 0) 0 [] hs (World.ownsRow_nil _ _ _ _) ⟨b,off,none⟩ L.len c xs hx g2
  (fun j u hu=> ?_) g4 (by unfold maxLen;omega) (by omega) iL fun o' w' e1 e2 _ _=> ?_
 ·have e:(⟨b,off,none⟩:Addr).add j=⟨b,off+j,none⟩:=by unfold Addr.add;split<;>simp_all
  rw [e];exact g3 j u hu
 ·rw [Nat.zero_add,List.nil_append]at e1
  have hB:Below w.heap.size w w':=⟨e2.os,e2.tape,e2.output,e2.size,fun k hk=>e2.block k hk (by simp [Value.ownBlock])⟩
  exact h o' w' ⟨xs,e1,g1.keep (fun q hq hl=>⟨hB.block q hl,hq⟩) L xs⟩ hB
theorem Xx{ops:Array Oper}{rest:List Oper}{op:Oper}{a:Act}{w:World}{Q:Exit->Act->World->Prop}(hgd:op.guard=none)(s x:Operand)
 (ho:op.op=.call {callee:=.builtin .append,args:=#[s,x],argTypes:=#[58,58]})
 (hs:a.eval s=.slice none 0 0) (L:Ns) (S:Nat->Prop) (A:Option Addr) (c:Nat) (hb:L.len<=1000000000000) (hx:a.eval x=.slice A L.len c) (hv:NsS w S (.slice A L.len c) L)
 (h:∀o' w',j65 w' w.heap.size S o' L->Below w.heap.size w w'->wpList Tryz.prog ops Q rest (a.put op.dst o') w'):wpList Tryz.prog ops Q (op :: rest) a w:=by
 obtain⟨A',c',e,_,_,_,hc⟩:=hv
 injection e with e1 _ e3
 subst e1 e3
 rcases Nat.eq_zero_or_pos L.len with h0|h0
 ·cases L with
  |cons t v k r=>simp [Ns.len]at h0
  |nil=>
   obtain⟨i,hinfo,hzz⟩:=Option.map_eq_some_iff.1 zH
   simp only [Prod.mk.injEq]at hzz
   obtain⟨hz,hsize,hbb⟩:=hzz
   rcases A with _|ad
   ·refine wpList_plain hgd fun K hK=> ?_
    have hrun:=zd (P:=Tryz.prog) w w.heap.size 58 op.type 61 i 3 Tryz.underlying58 hinfo (.slice none 0 0) 0 [] (World.ownsRow_nil _ _ _ _) c
    unfold Oper.wp execOp
    simp only [ho,resolve,invoke,builtin,Sem.run_bind,Sem.run_pure,Result.andThen_ok,List.map_toArray,List.map_cons,List.map_nil,hs,hx,Ns.len,hrun]
    exact hK _ _ (h _ _ ⟨[],World.ownsRow_nil _ _ _ _,rfl⟩ iB)
   ·refine wpList_append_own_at (w:=w) hgd s x 58 ho w.heap.size 61 i _ 3 56 Tryz.underlying58 hinfo hz hsize hbb rfl (by omega) (.slice none 0 0) 0 [] hs (World.ownsRow_nil _ _ _ _) ad 0 c [] hx rfl
     (fun j u hu=>by simp at hu) (fun u hu=>by simp at hu) (by unfold maxLen;omega) (by omega) iL fun o' w' e1 e2 _ _=> ?_
    exact h o' w' ⟨[],e1,rfl⟩ ⟨e2.os,e2.tape,e2.output,e2.size,fun k hk=>e2.block k hk (by simp [Value.ownBlock])⟩
 ·obtain⟨b,off,rfl,hS,hbl,hat⟩:=hc h0
  exact Xy hgd s x ho hs L S b off c h0 hb hx hat hS hbl h
end Go.Proofs.YtadndhgebgjlaaaGreat
