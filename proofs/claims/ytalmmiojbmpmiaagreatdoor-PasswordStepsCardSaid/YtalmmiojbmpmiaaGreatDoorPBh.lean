/- made.Dice: Tag and Bytes -/
import Derived.Test.YtalmmiojbmpmiaaGreatDoorPg
import Derived.Test.YtalmmiojbmpmiaaGreatDoorPl
set_option linter.all false
namespace Go.Proofs.YtalmmiojbmpmiaaGreatDoor
open Go.RowKit Go.Deep
theorem j3r{z:Int}(h0:0<=z)(h1:z<=255):Value.int .u8 z=U8 (ofI z):=by rw [<-jh,Int.emod_eq_of_lt h0 (by omega)]
theorem xn{ops:Array Oper}{rest:List Oper}{o:Oper}{a:Act}{w:World}{Q:Exit->Act->World->Prop}(hgd:o.guard=none)(s x:Operand)(ho:o.op=.call {callee:=.builtin .append,args:=#[s,x],argTypes:=#[22,22]})(base:Nat)(v:Value)(l:List UInt8)(hs:a.eval s=v)(hown:OwnB w base v l)(z:Int)(h0:0<=z)(h1:z<=255)(t:TypeId)(g:Nat)(hx:a.eval x=.slice (some ⟨g,0,none⟩) 1 1)(hg:g=w.heap.size)(hb:l.length+1<=140737488355328)(hbase:base<=w.heap.size)(h:∀v' w',j3w w w' base v v' (l++ [ofI z])->wpList Tryz.prog ops Q rest (a.put o.dst v') w'):wpList Tryz.prog ops Q (o :: rest) a (w.alloc (.cells #[.int .u8 z] t)):=by
 rw [j3r h0 h1]
 exact ji hgd s x ho base v l hs hown (ofI z) t g hx hg hb hbase h
def DRow(B:Nat)(w wi:World)(p n:Nat)(o:Value)(l:List UInt8):Prop:=OwnB wi w.heap.size o l/\DiePost B w p n wi/\B<=w.heap.size
theorem DRow.start{B:Nat}{w:World}{p n:Nat}(h:Die B w p n):DRow B w w p n (.slice none 0 0) []:=⟨OwnB.nil _ _,⟨h,World.grownBy.refl _ _⟩,h.le⟩
theorem XS{wi wj:World}{base e size n p:Nat}{o:Value}{xs:List Value}(h:wi.ownsRow base e size o n xs)(hp:p<base)(hg:wi.grownBy wj (some p)):wj.ownsRow base e size o n xs:=
 World.ownsRow.kept h hg (by
  rcases e:o.ownBlock with _|b
  ·exact .inl rfl
  ·refine .inr fun e2=> ?_
   have:=(h.lt b e).1
   injection e2 with e2
   omega)
theorem DRow.call{B:Nat}{w wi wj:World}{p n:Nat}{o:Value}{l:List UInt8}(h:DRow B w wi p n o l)(hd:DiePost B wi p n wj):DRow B w wj p n o l:=
 ⟨XS h.1 (iZ hd.1.lt h.2.2) hd.2,h.2.1.trans hd,h.2.2⟩
theorem j32{w wi wj:World}{p:Nat}{row:Option Nat}(h:w.grownBy wi (some p))(hg:wi.grownBy wj row)(hr:∀b,row=some b->w.heap.size<=b):w.grownBy wj (some p):=
 ⟨hg.os.trans h.os,hg.tape.trans h.tape,hg.output.trans h.output,Nat.le_trans h.size hg.size,fun k hk hne=>(hg.block k (iZ hk h.size) (fun e=>by have:=hr k e.symm;omega)).trans (h.block k hk hne)⟩
theorem DRow.grew{B:Nat}{w wi wj:World}{p n:Nat}{o o':Value}{l l':List UInt8}(h:DRow B w wi p n o l)(g:j3w wi wj w.heap.size o o' l'):DRow B w wj p n o' l':=by
 obtain⟨h1,⟨h2,h3⟩,h4⟩:=h
 obtain⟨g1,g2,g3,g4⟩:=g
 exact⟨g1,⟨h2.below (g2.mono h4),j32 h3 g3 fun b e=>(h1.lt b e).1⟩,h4⟩
section
variable{B:Nat}{w wi:World}{p n:Nat}{o:Value}{l:List UInt8}(h:DRow B w wi p n o l)
include B w wi p n o l h
theorem DRow.alloc(x:Obj):DRow B w (wi.alloc x) p n o l:=
 ⟨h.1.alloc x,⟨h.2.1.1.alloc x,jQ h.2.1.2 x⟩,h.2.2⟩
theorem DRow.own:OwnB wi w.heap.size o l:=h.1
theorem DRow.die:Die B wi p n:=h.2.1.1
theorem DRow.size:w.heap.size<=wi.heap.size:=h.2.1.2.size
end
end Go.Proofs.YtalmmiojbmpmiaaGreatDoor
