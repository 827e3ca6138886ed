/- Layer 14, plain: what is written for infos and read from objects. No program is named here; Layer 14: identifiers, both sides -/
import Derived.BigQuiet
import Derived.Deep.DeepCutAuto
import Derived.Deep.RegionLawGrows
import Derived.Lib.BitFns
import Derived.Lib.SlBytesConst
import Derived.Lib.Slices
import Derived.Lib.Small
import Derived.Lib.Strings
import Derived.Lib.Walk
import Derived.StillTailTactics
import Derived.Test.YtadndhgebgjlaaaChecked
import Derived.Test.YtadndhgebgjlaaaPf
import Derived.Test.YtadndhgebgjlaaaPi
set_option linter.unusedVariables false
set_option linter.unusedSimpArgs false
namespace Go.Proofs.Ytadndhgebgjlaaa
open Go.RowKit Go.Deep
def Jj(v:List UInt8):Int:=v.foldl (fun n b=>256*n+bv b) 0
theorem OwnB.fresh(w:World)(l:List UInt8)(xs:Array Value)(hx:xs.toList=l.map U8)(base:Nat)(hb:base<=w.heap.size)(hl:l.length<=9223372036854775807):
 OwnB (w.alloc (.cells xs 5)) base (.slice (some ⟨w.heap.size,0,none⟩) l.length l.length) l:=by
 have hs:xs.size=l.length:=by rw [<-Array.length_toList,hx];simp
 refine⟨by simp,.inr ⟨w.heap.size,l.length,xs,rfl,hb,iN,Nat.le_refl _,hl,by omega,?_⟩⟩
 rw [hx,Nat.mul_one]
 exact List.take_of_length_le (by simp)
theorem BsS.fresh(w:World)(l:List UInt8)(xs:Array Value)(t:TypeId)(hx:xs.toList=l.map U8)(S:Nat->Prop)(hS:S w.heap.size)(hl:l.length<=140737488355328):
 BsS (w.alloc (.cells xs t)) S (.slice (some ⟨w.heap.size,0,none⟩) l.length l.length) l:=by
 refine⟨_,_,rfl,Nat.le_refl _,by omega,hl,fun _=>⟨w.heap.size,0,rfl,hS,fun j hj=> ?_⟩⟩
 rw [Nat.zero_add,cell_of_row _ _ _ _ _ _ (iN),<-Array.getElem?_toList,hx]
 exact ky l j hj
end Go.Proofs.Ytadndhgebgjlaaa
