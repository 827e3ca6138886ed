/- made.Dice: Spoil -/
import Derived.Test.YtadndhgebgjlaaaPq
import Derived.Test.YtadndhgebgjlaaaPo
set_option linter.unusedVariables false
set_option linter.unusedSimpArgs false
namespace Go.Proofs.Ytadndhgebgjlaaa
open Go.RowKit Go.Deep
theorem OwnB.slot{w:World}{base:Nat}{A:Option Addr}{c:Nat}{l:List UInt8}(h:OwnB w base (.slice A l.length c) l)(hl:0<l.length):
 ∃g,A=some ⟨g,0,none⟩/\base<=g/\g<w.heap.size/\l.length<=c/\c<=9223372036854775807/\(∀j,j<l.length->w.cell? ⟨g,j,none⟩=some (U8 (gb l j)))/\∀j,w.frozen? ⟨g,j,none⟩=false:=by
 have hc:=fun g=>World.ownsRow.cells h (g:=g)
 rcases h.2 with ⟨e,h0⟩|⟨g,cap,cur,hv,hb,hh,hn,hm,r⟩
 ·omega
 ·injection hv with e1 _ e3
  subst e1 e3
  refine⟨g,rfl,hb,(iG hh),hn,hm,fun j hj=> ?_,fun j=>by simp [World.frozen?,hh]⟩
  have:=hc g rfl j (U8 (gb l j)) (ky l j hj)
  have e:(⟨g,0,none⟩:Addr).add j=⟨g,0+j,none⟩:=by unfold Addr.add;split<;>simp_all
  rwa [e,Nat.zero_add]at this
end Go.Proofs.Ytadndhgebgjlaaa
