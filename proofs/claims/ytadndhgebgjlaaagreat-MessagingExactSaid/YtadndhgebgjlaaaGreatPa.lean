/- Short names for what the texts say often (a claim has at most 1,500,000 bytes: mini.py). No program is named here -/
import Derived.Lib.Hide
set_option linter.all false
namespace Go.Proofs.YtadndhgebgjlaaaGreat
open Go.RowKit
theorem iH{p:Prop}(h:p):Hid p:=h
theorem iB{n:Nat}{w:World}:Below n w w:=Below.refl _ _
theorem iA{w:World}{o:Obj}:Below w.heap.size w (w.alloc o):=(Below.refl _ _).alloc (Nat.le_refl _) _
theorem iL{n:Nat}:n<=n:=Nat.le_refl _
theorem iZ{a b c:Nat}(h:a<b)(k:b<=c):a<c:=Nat.lt_of_lt_of_le h k
theorem iN{w:World}{o:Obj}:(w.alloc o).heap[w.heap.size]?=some o:=heap_alloc_new _ _
theorem iG{α:Type}{x:Array α}{i:Nat}{a:α}(h:x[i]?=some a):i<x.size:=(Array.getElem?_eq_some_iff.1 h).1
theorem iF.{u}{c:Prop}{h:Decidable c}(hnc:¬c){α:Sort u}{t e:α}:(if c then t else e)=e:=if_neg hnc
theorem iT.{u}{c:Prop}{h:Decidable c}(hc:c){α:Sort u}{t e:α}:(if c then t else e)=t:=if_pos hc
theorem iS{α:Type}{l:List α}{i:Nat}{a:α}:l.toArray.setIfInBounds i a=(l.set i a).toArray:=List.setIfInBounds_toArray _ _ _
theorem iC{α:Type}{a b:α}{l:List α}:(a :: l).set 0 b=b :: l:=List.set_cons_zero
theorem iD{α:Type}{a b:α}{n:Nat}{l:List α}:(a :: l).set (n+1) b=a :: l.set n b:=List.set_cons_succ
theorem iE{α:Type}{a:α}{n:Nat}{l:List α}:(a :: l).drop (n+1)=l.drop n:=List.drop_succ_cons
theorem iI{α:Type}{a:α}{n:Nat}{l:List α}:(a :: l).take (n+1)=a :: l.take n:=List.take_succ_cons
theorem iJ{α:Type}{l:List α}:l.drop 0=l:=List.drop_zero
theorem iK{α:Type}{l:List α}:l.take 0= []:=List.take_zero
theorem iM(n:Nat):0+n=n:=Nat.zero_add n
theorem iO{w:World}{p:Addr}{v:Value}{k:Nat}(h:k≠p.block):(w.setCell p v).heap[k]?=w.heap[k]? :=Below.heap_setCell _ _ _ _ h
end Go.Proofs.YtadndhgebgjlaaaGreat
