/- made.Dice: Tag and Bytes -/
import Derived.Test.YtadndhgebgjlaaaGreatPh
import Derived.Test.YtadndhgebgjlaaaGreatPl
set_option linter.all false
set_option maxRecDepth 100000
set_option maxHeartbeats 1000000
namespace Go.Proofs.YtadndhgebgjlaaaGreat
open Go.RowKit Go.Deep
theorem qC{z:Int}(h0:0<=z)(h1:z<=255):Value.int .u8 z=U8 (ofI z):=by rw [<-j5,Int.emod_eq_of_lt h0 (by omega)]
theorem yI{ops:Array Oper}{rest:List Oper}{o:Oper}{a:Act}{w:World}{Q:Exit->Act->World->Prop}(hgd:o.guard=none)(s x:Operand)(ho:o.op=.call {callee:=.builtin .append,args:=#[s,x],argTypes:=#[27,27]})(base:Nat)(v:Value)(l:List UInt8)(hs:a.eval s=v)(hown:OwnB w base v l)(z:Int)(h0:0<=z)(h1:z<=255)(t:TypeId)(g:Nat)(hx:a.eval x=.slice (some ⟨g,0,none⟩) 1 1)(hg:g=w.heap.size)(hb:l.length+1<=140737488355328)(hbase:base<=w.heap.size)(h:∀v' w',j4i w w' base v v' (l++ [ofI z])->wpList Tryz.prog ops Q rest (a.put o.dst v') w'):wpList Tryz.prog ops Q (o :: rest) a (w.alloc (.cells #[.int .u8 z] t)):=by
 rw [qC h0 h1]
 exact jl hgd s x ho base v l hs hown (ofI z) t g hx hg hb hbase h
def DRow(B:Nat)(w wi:World)(p n:Nat)(o:Value)(l:List UInt8):Prop:=OwnB wi w.heap.size o l/\DiePost B w p n wi/\B<=w.heap.size
theorem DRow.start{B:Nat}{w:World}{p n:Nat}(h:Die B w p n):DRow B w w p n (.slice none 0 0) []:=⟨OwnB.nil _ _,⟨h,World.grownBy.refl _ _⟩,h.le⟩
theorem XH{wi wj:World}{base e size n p:Nat}{o:Value}{xs:List Value}(h:wi.ownsRow base e size o n xs)(hp:p<base)(hg:wi.grownBy wj (some p)):wj.ownsRow base e size o n xs:=
 World.ownsRow.kept h hg (by
  rcases e:o.ownBlock with _|b
  ·exact .inl rfl
  ·refine .inr fun e2=> ?_
   have:=(h.lt b e).1
   injection e2 with e2
   omega)
theorem DRow.call{B:Nat}{w wi wj:World}{p n:Nat}{o:Value}{l:List UInt8}(h:DRow B w wi p n o l)(hd:DiePost B wi p n wj):DRow B w wj p n o l:=
 ⟨XH h.1 (iZ hd.1.lt h.2.2) hd.2,h.2.1.trans hd,h.2.2⟩
theorem j30{w wi wj:World}{p:Nat}{row:Option Nat}(h:w.grownBy wi (some p))(hg:wi.grownBy wj row)(hr:∀b,row=some b->w.heap.size<=b):w.grownBy wj (some p):=
 ⟨hg.os.trans h.os,hg.tape.trans h.tape,hg.output.trans h.output,Nat.le_trans h.size hg.size,fun k hk hne=>(hg.block k (iZ hk h.size) (fun e=>by have:=hr k e.symm;omega)).trans (h.block k hk hne)⟩
theorem DRow.grew{B:Nat}{w wi wj:World}{p n:Nat}{o o':Value}{l l':List UInt8}(h:DRow B w wi p n o l)(g:j4i wi wj w.heap.size o o' l'):DRow B w wj p n o' l':=by
 obtain⟨h1,⟨h2,h3⟩,h4⟩:=h
 obtain⟨g1,g2,g3,g4⟩:=g
 exact⟨g1,⟨h2.below (g2.mono h4),j30 h3 g3 fun b e=>(h1.lt b e).1⟩,h4⟩
section
variable{B:Nat}{w wi:World}{p n:Nat}{o:Value}{l:List UInt8}(h:DRow B w wi p n o l)
include B w wi p n o l h
theorem DRow.own:OwnB wi w.heap.size o l:=h.1
theorem DRow.die:Die B wi p n:=h.2.1.1
theorem DRow.size:w.heap.size<=wi.heap.size:=h.2.1.2.size
end
theorem KI(B p n:Nat)(m:Int)(w:World)(h:Die B w p n)(hm0:0<=m)(hm:m<=100000):
 Calls Tryz.prog 27 #[.pointer (some ⟨p,0,none⟩),.int .i64 m] w fun e w'=>∃v l,e=.returned v/\BsS w' (New w w') v l/\(l.length:Int)<=m/\DiePost B w p n w':=by
 have H0:=iH (DRow.start h)
 clear h
 go_enter Tryz.func27,Tryz.ntmps27
 go_wp2_with(go_at_call 15;refine(ke B p n _ _ H0.out.die (by omega) (by omega)).mono ?_;rintro e w1 ⟨z0,rfl,hz0,hd⟩;have H1:=iH (H0.out.call hd);clear hd)
 go_loopg [5,6] z0 (fun q o i wr=>∃l:List UInt8,l.length+q=z0/\i=.int .i64 q/\DRow B w wr p n o l)
 case atStart=>exact⟨[],by simp,rfl,H1.out⟩
 case round=>
  obtain⟨l,hl,rfl,hR⟩:=hrel
  obtain⟨oa,oc,rfl⟩:=hR.own.form
  have HR:=iH hR
  clear hR
  by_cases hq:gk=0
  ·subst hq
   go_wp2_with fail
   go_ret
   exact⟨_,l,rfl,HR.out.own.out (by omega) w iL,by omega,HR.out.2.1⟩
  ·have hq1:0<gk:=by omega
   clear hq
   go_wp2_with(first
    |(at_builtin;(with_reducible refine yI rfl (.tmp 15) (.tmp 19) rfl w.heap.size (.slice oa l.length oc) l rfl HR2.out.own (z:Int) (by omega) (by omega) _ w2.heap.size rfl rfl (by omega) HR2.out.size ?_);intro v3 w3 hgr;have H3:=iH (HR2.out.grew hgr);clear hgr)
    |(go_at_call 15;refine(ke B p n _ _ HR.out.die (by decide) (by decide)).mono ?_;rintro e w2 ⟨z,rfl,hz,hd⟩;have HR2:=iH (HR.out.call hd);clear hd))
   go_roundg (gk - 1)
   case measure=>omega
   case rel=>exact⟨_,by simp;omega,by go_num,H3.out⟩
end Go.Proofs.YtadndhgebgjlaaaGreat
