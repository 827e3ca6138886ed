/- n bytes of a function as values; a row of the call's own by its form. No program is named here -/
import Derived.Test.YtadndhgebgjlaaaPd
set_option linter.unusedVariables false
set_option linter.unusedSimpArgs false
namespace Go.Proofs.Ytadndhgebgjlaaa
open Go.RowKit
theorem Bs.lenEq{w:World}{S:Nat->Prop}{A:Option Addr}{n c:Nat}{l:List UInt8}(h:BsS w S (.slice A n c) l):n=l.length:=by
 obtain⟨_,_,hv,_⟩:=h;injection hv
def qG(n:Nat)(f:Nat->UInt8):List Value:=(List.range n).map fun j=>U8 (f j)
theorem qj(n:Nat)(f:Nat->UInt8)(j:Nat)(h:j<n):(qG n f)[j]?=some (U8 (f j)):=by simp [qG,h]
theorem yG(n:Nat)(f:Nat->UInt8)(j:Nat)(b:UInt8):(qG n f).set j (U8 b)=qG n fun i=>if i=j then b else f i:=by
 apply List.ext_getElem?
 intro i
 rw [List.getElem?_set]
 by_cases hi:i<n
 ·by_cases h:j=i
  ·subst h;simp [qG,hi]
  ·rw [if_neg h,qj n f i hi,qj n _ i hi,if_neg (fun e=>h e.symm)]
 ·have e1:(qG n fun i=>if i=j then b else f i)[i]?=none:=List.getElem?_eq_none (by simp [qG];omega)
  rw [e1]
  split
  ·rw [if_neg (by simp [qG];omega)]
  ·exact List.getElem?_eq_none (by simp [qG];omega)
theorem QJ(l:List UInt8)(n:Nat)(h:l.length=n):l.map U8=qG n (gb l):=by
 subst h
 apply List.ext_getElem?
 intro i
 rcases Nat.lt_or_ge i l.length with hi|hi
 ·rw [ky l i hi,qj _ _ _ hi]
 ·rw [List.getElem?_eq_none (by simpa using hi),List.getElem?_eq_none (by simpa [qG]using hi)]
theorem zN(n:Nat)(f:Nat->UInt8):qG n f=(jY n f).map U8:=by simp [qG,jY]
theorem kQ{n:Nat}{f g:Nat->UInt8}(h:∀j,j<n->f j=g j):qG n f=qG n g:=by
 unfold qG;exact List.map_congr_left fun j hj=>by rw [h j (by simpa using hj)]
theorem QZ(n k:Nat)(new old:Nat->UInt8):(qG n (qq k new old)).set k (U8 (new k))=qG n (qq (k+1) new old):=by
 rw [yG]
 refine kQ fun j _=> ?_
 unfold qq
 by_cases e:j=k
 ·subst e;rw [if_pos rfl,if_pos (by omega)]
 ·rw [if_neg e]
  by_cases e2:j<k
  ·rw [if_pos e2,if_pos (by omega)]
  ·rw [if_neg e2,if_neg (by omega)]
theorem Yp{w:World}{base:Nat}{e:TypeId}{g n cap:Nat}{xs:List Value}(h:w.ownsRow base e 1 (.slice (some ⟨g,0,none⟩) n cap) n xs):n<=cap/\cap<=9223372036854775807:=by
 rcases h.2 with ⟨h2,_⟩|⟨g',cap',cur,hv,_,_,h1,h2,_⟩
 ·cases h2
 ·injection hv with _ _ h3
  subst h3
  exact⟨h1,by unfold maxLen at h2;exact h2⟩
theorem kN{w:World}{base:Nat}{e:TypeId}{v:Value}{n:Nat}{xs:List Value}(h:w.ownsRow base e 1 v n xs)(hn:0<n):∃g cap,v=.slice (some ⟨g,0,none⟩) n cap/\base<=g/\g<w.heap.size/\n<=cap:=by
 obtain⟨g,cap,rfl,h1,h2⟩:=h.form hn
 exact⟨g,cap,rfl,h1,h2,(Yp h).1⟩
end Go.Proofs.Ytadndhgebgjlaaa
