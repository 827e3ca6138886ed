/- made.Dice: Nodes -/
import Derived.Test.YtadndhgebgjlaaaGreatPp
import Derived.Test.YtadndhgebgjlaaaGreatPs
set_option linter.all false
namespace Go.Proofs.YtadndhgebgjlaaaGreat
open Go.RowKit Go.Deep
theorem Xv(n:Nat):(madeCells (Value.int .u8 0).cells (n*1)).toList=(List.replicate n (0:UInt8)).map U8:=by
 rw [List.map_replicate]
 apply List.ext_getElem
 ·simp [madeCells]
 ·intro i h1 h2
  simp [madeCells,Value.cells,Nat.mod_one]
  rfl
theorem yH{ops:Array Oper}{rest:List Oper}{o:Oper}{a:Act}{w:World}{Q:Exit->Act->World->Prop}(hgd:o.guard=none)(x:Operand)(ho:o.op=.makeSlice 27 x x)(L:Int)(n:Nat)(hx:a.eval x=.int .i64 L)(hL:L=n)(hn:n<=1000000)(h:∀w',BsS w' (New w w') (.slice (some ⟨w.heap.size,0,none⟩) n n) (List.replicate n 0)->Below w.heap.size w w'->wpList Tryz.prog ops Q rest (a.put o.dst (.slice (some ⟨w.heap.size,0,none⟩) n n)) w'):wpList Tryz.prog ops Q (o :: rest) a w:=by
 obtain⟨i,hinfo,hzz⟩:=Option.map_eq_some_iff.1 kJ
 simp only [Prod.mk.injEq]at hzz
 obtain⟨hz,hsize,hbb⟩:=hzz
 refine wpList_make_full w hgd x x 27 ho w.heap.size 5 i _ 1 Tryz.underlying27 hinfo hz hsize .i64 .i64 L L n hx hx hL hL (by rw [hbb];omega) (by unfold maxLen;omega) iL fun w' h1 h2=>h w' ?_ ⟨h2.os,h2.tape,h2.output,h2.size,fun k hk=>h2.block k hk (by simp)⟩
 rw [Xv]at h1
 exact(BsS.of_own h1 (by simp;omega)).keep fun b hs _=>⟨rfl,hs⟩
end Go.Proofs.YtadndhgebgjlaaaGreat
