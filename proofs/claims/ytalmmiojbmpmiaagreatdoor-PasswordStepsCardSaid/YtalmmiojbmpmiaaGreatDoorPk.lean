/- n bytes of a function as values; a row of the call's own by its form. No program is named here -/
import Derived.Test.YtalmmiojbmpmiaaGreatDoorPc
set_option linter.all false
namespace Go.Proofs.YtalmmiojbmpmiaaGreatDoor
open Go.RowKit
theorem Bs.lenEq{w:World}{S:Nat->Prop}{A:Option Addr}{n c:Nat}{l:List UInt8}(h:BsS w S (.slice A n c) l):n=l.length:=by
 obtain⟨_,_,hv,_⟩:=h;injection hv
def zj(n:Nat)(f:Nat->UInt8):List Value:=(List.range n).map fun j=>U8 (f j)
theorem xm(n:Nat)(f:Nat->UInt8)(j:Nat)(h:j<n):(zj n f)[j]?=some (U8 (f j)):=by simp [zj,h]
theorem Jn(n:Nat)(f:Nat->UInt8)(j:Nat)(b:UInt8):(zj n f).set j (U8 b)=zj n fun i=>if i=j then b else f i:=by
 apply List.ext_getElem?
 intro i
 rw [List.getElem?_set]
 by_cases hi:i<n
 ·by_cases h:j=i
  ·subst h;simp [zj,hi]
  ·rw [iF h,xm n f i hi,xm n _ i hi,iF (fun e=>h e.symm)]
 ·have e1:(zj n fun i=>if i=j then b else f i)[i]?=none:=List.getElem?_eq_none (by simp [zj];omega)
  rw [e1]
  split
  ·rw [iF (by simp [zj];omega)]
  ·exact List.getElem?_eq_none (by simp [zj];omega)
theorem X8(l:List UInt8)(n:Nat)(h:l.length=n):l.map U8=zj n (gb l):=by
 subst h
 apply List.ext_getElem?
 intro i
 rcases Nat.lt_or_ge i l.length with hi|hi
 ·rw [jK l i hi,xm _ _ _ hi]
 ·rw [List.getElem?_eq_none (by simpa using hi),List.getElem?_eq_none (by simpa [zj]using hi)]
theorem Q1(n:Nat)(f:Nat->UInt8):zj n f=(jC n f).map U8:=by simp [zj,jC]
theorem qn{n:Nat}{f g:Nat->UInt8}(h:∀j,j<n->f j=g j):zj n f=zj n g:=by
 unfold zj;exact List.map_congr_left fun j hj=>by rw [h j (by simpa using hj)]
theorem j1j(n k:Nat)(new old:Nat->UInt8):(zj n (qI k new old)).set k (U8 (new k))=zj n (qI (k+1) new old):=by
 rw [Jn]
 refine qn fun j _=> ?_
 unfold qI
 by_cases e:j=k
 ·subst e;rw [iT rfl,iT (by omega)]
 ·rw [iF e]
  by_cases e2:j<k
  ·rw [iT e2,iT (by omega)]
  ·rw [iF e2,iF (by omega)]
theorem j5g{w:World}{base:Nat}{e:TypeId}{g n cap:Nat}{xs:List Value}(h:w.ownsRow base e 1 (.slice (some ⟨g,0,none⟩) n cap) n xs):n<=cap/\cap<=9223372036854775807:=by
 rcases h.2 with ⟨h2,_⟩|⟨g',cap',cur,hv,_,_,h1,h2,_⟩
 ·cases h2
 ·injection hv with _ _ h3
  subst h3
  exact⟨h1,by unfold maxLen at h2;exact h2⟩
theorem kZ{w:World}{base:Nat}{e:TypeId}{v:Value}{n:Nat}{xs:List Value}(h:w.ownsRow base e 1 v n xs)(hn:0<n):∃g cap,v=.slice (some ⟨g,0,none⟩) n cap/\base<=g/\g<w.heap.size/\n<=cap:=by
 obtain⟨g,cap,rfl,h1,h2⟩:=h.form hn
 exact⟨g,cap,rfl,h1,h2,(j5g h).1⟩
end Go.Proofs.YtalmmiojbmpmiaaGreatDoor
