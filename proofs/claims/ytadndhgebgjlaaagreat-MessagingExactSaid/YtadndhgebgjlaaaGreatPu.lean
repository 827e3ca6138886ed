/- Cuts of slices of bytes. No program is named here -/
import Derived.Test.YtadndhgebgjlaaaGreatPb
set_option linter.all false
namespace Go.Proofs.YtadndhgebgjlaaaGreat
open Go.RowKit
theorem j54{w:World}{S:Nat->Prop}{b off n c:Nat}{l:List UInt8}(h:BsS w S (.slice (some ⟨b,off,none⟩) n c) l)(k:Nat)(hk:k<=l.length):BsS w S (.slice (some ⟨b,off+k,none⟩) (n - k) (c - k)) (l.drop k):=by
 obtain⟨a,c',hv,h1,h2,h3,h4⟩:=h
 injection hv with ha hn hc
 subst ha hc hn
 refine⟨_,c - k,by rw [List.length_drop],by rw [List.length_drop];omega,by omega,by rw [List.length_drop];omega,fun hp=> ?_⟩
 rw [List.length_drop]at hp
 obtain⟨b',off',e,hb,hcell⟩:=h4 (by omega)
 injection e with e
 injection e with e1 e2
 subst e1 e2
 refine⟨b,off+k,rfl,hb,fun j hj=> ?_⟩
 rw [List.length_drop]at hj
 rw [Nat.add_assoc,hcell (k+j) (by omega)]
 congr 2
 unfold gb
 rw [List.getD_eq_getElem?_getD,List.getD_eq_getElem?_getD,List.getElem?_drop]
theorem ZG{w:World}{S:Nat->Prop}{b off n c:Nat}{l:List UInt8}(h:BsS w S (.slice (some ⟨b,off,none⟩) n c) l)(k:Nat)(hk:k<=l.length)(n' c':Nat)(hn:n'=n - k)(hc:c'=c - k):BsS w S (.slice (some ⟨b,off+k,none⟩) n' c') (l.drop k):=by
 subst hn hc
 exact j54 h k hk
theorem QJ{w:World}{S:Nat->Prop}{A:Option Addr}{n c:Nat}{l:List UInt8}(h:BsS w S (.slice A n c) l)(hl:0<l.length):∃b off,A=some ⟨b,off,none⟩:=by
 obtain⟨_,_,hv,_,_,_,h4⟩:=h
 injection hv with ha hn hc
 obtain⟨b,off,e,_⟩:=h4 hl
 exact⟨b,off,ha.trans e⟩
end Go.Proofs.YtadndhgebgjlaaaGreat
