/- Short names -/
import Derived.Lib.Hide
set_option linter.unusedVariables false
set_option linter.unusedSimpArgs false
namespace Go.Proofs.Ytadndhgebgjlaaa
open Go.RowKit
theorem iH{p:Prop}(h:p):Hid p:=h
theorem iB{n:Nat}{w:World}:Below n w w:=Below.refl _ _
theorem iA{w:World}{o:Obj}:Below w.heap.size w (w.alloc o):=(Below.refl _ _).alloc (Nat.le_refl _) _
theorem iL{n:Nat}:n<=n:=Nat.le_refl _
theorem iZ{a b c:Nat}(h:a<b)(k:b<=c):a<c:=Nat.lt_of_lt_of_le h k
theorem iN{w:World}{o:Obj}:(w.alloc o).heap[w.heap.size]?=some o:=heap_alloc_new _ _
theorem iG{α:Type}{x:Array α}{i:Nat}{a:α}(h:x[i]?=some a):i<x.size:=(Array.getElem?_eq_some_iff.1 h).1
end Go.Proofs.Ytadndhgebgjlaaa
