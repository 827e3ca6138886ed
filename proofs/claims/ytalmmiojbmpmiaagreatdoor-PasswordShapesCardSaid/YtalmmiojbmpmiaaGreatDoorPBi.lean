/- Words for an exchange that a pointer leads to -/
import Derived.Test.YtalmmiojbmpmiaaGreatDoorPBf
set_option linter.all false
namespace Go.Proofs.YtalmmiojbmpmiaaGreatDoor
open Go.RowKit Go.Deep
def PtW(P:Nat)(w W:World)(row:Array Value):Prop:=W.heap[P]?=some (.cells row 48 (0,0))/\w.grownBy W (some P)/\Below P w W
abbrev jL(P:Nat)(W:World):Nat->Prop:=fun b=>b<W.heap.size/\b≠P
section
variable {P:Nat} {w W W':World} {row:Array Value} {u:Value} {l:List UInt8}
theorem PtW.start(h:w.heap[P]?=some (.cells row 48 (0,0))):PtW P w w row:=⟨h,World.grownBy.refl _ _,Below.refl _ _⟩
theorem PtW.lt(h:PtW P w W row):P<W.heap.size:=lt_of_block h.1
theorem zq{r:Option Nat}(hb:Below W.heap.size W W'):W.grownBy W' r:=⟨hb.os,hb.tape,hb.output,hb.size,fun i hi _=>hb.block i hi⟩
theorem PtW.call(h:PtW P w W row)(hb:Below W.heap.size W W'):PtW P w W' row:=
 ⟨(hb.block P h.lt).trans h.1,jN h.2.1 (zq hb),h.2.2.trans (hb.mono (Nat.le_of_lt h.lt))⟩
theorem PtW.set(h:PtW P w W row)(i:Nat)(v:Value):PtW P w (W.setCell ⟨P,i,none⟩ v) (row.set! i v):=
 ⟨kM (o:=i) h.1,j5 h.2.1 (.inl rfl) _,h.2.2.setCell iL _⟩
theorem PtW.drew(h:PtW P w W row):PtW P w W.drew row:=⟨h.1,⟨h.2.1.os,h.2.1.tape,h.2.1.output,h.2.1.size,h.2.1.block⟩,h.2.2.drew⟩
theorem BsS.setP(h:BsS W (jL P W) u l)(i:Nat)(v:Value):BsS (W.setCell ⟨P,i,none⟩ v) (jL P (W.setCell ⟨P,i,none⟩ v)) u l:=
 h.keep fun b hs hl=>⟨iO hs.2,by simpa [World.setCell]using hl,hs.2⟩
theorem BsS.grownP(h:BsS W (jL P W) u l)(hg:W.grownBy W' (some P)):BsS W' (jL P W') u l:=
 h.keep fun b hs hl=>⟨hg.block b hl (fun e=>by injection e with e;exact hs.2 e),iZ hl hg.size,hs.2⟩
end
def PtO(P:Nat)(w:World)(X:Exg)(W:World):Prop:=
 ∃sA nA aA bA sc nc ac bc,PtW P w W #[.int .i64 X.kd,.slice sA X.sec.length sc,.int .i64 X.pr,.int .i64 X.st,.slice nA X.non.length nc,.int .i64 X.x,.int .i64 X.g,.int .i64 X.own,.int .i64 X.oth,.slice aA X.k1.length ac,.slice bA X.k2.length bc,.int .i64 X.ct]
  /\BsS W (jL P W) (.slice sA X.sec.length sc) X.sec/\BsS W (jL P W) (.slice nA X.non.length nc) X.non/\BsS W (jL P W) (.slice aA X.k1.length ac) X.k1/\BsS W (jL P W) (.slice bA X.k2.length bc) X.k2
def Vg(P:Nat)(w:World)(tag:Int)(X:Exg)(dt nx:List UInt8)(e:Ending)(w':World):Prop:=
 ∃dA dc nA nc,e=.returned (.tuple #[.int .i64 tag,.slice dA dt.length dc,.slice nA nx.length nc,.int .i64 0])/\PtO P w X w'/\BsS w' (jL P w') (.slice dA dt.length dc) dt/\BsS w' (jL P w') (.slice nA nx.length nc) nx
end Go.Proofs.YtalmmiojbmpmiaaGreatDoor
