/- Short names -/
import Derived.Lib.Hide
set_option linter.all false
namespace Go.Proofs.YtalmmiojbmpmiaaGreatDoor
open Go.RowKit
theorem iH{p:Prop}(h:p):Hid p:=h
theorem iB{n:Nat}{w:World}:Below n w w:=Below.refl _ _
theorem iA{w:World}{o:Obj}:Below w.heap.size w (w.alloc o):=(Below.refl _ _).alloc (Nat.le_refl _) _
theorem iL{n:Nat}:n<=n:=Nat.le_refl _
theorem iZ{a b c:Nat}(h:a<b)(k:b<=c):a<c:=Nat.lt_of_lt_of_le h k
theorem iN{w:World}{o:Obj}:(w.alloc o).heap[w.heap.size]?=some o:=heap_alloc_new _ _
theorem iG{α:Type}{x:Array α}{i:Nat}{a:α}(h:x[i]?=some a):i<x.size:=(Array.getElem?_eq_some_iff.1 h).1
theorem iF.{u}{c:Prop}{h:Decidable c}(hnc:¬c){α:Sort u}{t e:α}:(if c then t else e)=e:=if_neg hnc
theorem iT.{u}{c:Prop}{h:Decidable c}(hc:c){α:Sort u}{t e:α}:(if c then t else e)=t:=if_pos hc
section
variable{α:Type}
include α
theorem iS{l:List α}{i:Nat}{a:α}:l.toArray.setIfInBounds i a=(l.set i a).toArray:=List.setIfInBounds_toArray _ _ _
theorem iC{a b:α}{l:List α}:(a :: l).set 0 b=b :: l:=rfl
theorem iD{a b:α}{n:Nat}{l:List α}:(a :: l).set (n+1) b=a :: l.set n b:=rfl
theorem iE{a:α}{n:Nat}{l:List α}:(a :: l).drop (n+1)=l.drop n:=rfl
theorem iI{a:α}{n:Nat}{l:List α}:(a :: l).take (n+1)=a :: l.take n:=rfl
theorem iJ{l:List α}:l.drop 0=l:=rfl
theorem iK{l:List α}:l.take 0= []:=rfl
end
theorem iM(n:Nat):0+n=n:=Nat.zero_add n
theorem iO{w:World}{p:Addr}{v:Value}{k:Nat}(h:k≠p.block):(w.setCell p v).heap[k]?=w.heap[k]? :=Below.heap_setCell _ _ _ _ h
theorem iR{P:Program}{f:FuncId}{a:Array Value}{w u:World}{v:Ending}{R:Ending->World->Prop}(h:Calls P f a w fun e w'=>e=v/\w'=u)(k:R v u):Calls P f a w R:=h.mono fun _ _ ⟨x,y⟩=>by rw [x,y];exact k
end Go.Proofs.YtalmmiojbmpmiaaGreatDoor
