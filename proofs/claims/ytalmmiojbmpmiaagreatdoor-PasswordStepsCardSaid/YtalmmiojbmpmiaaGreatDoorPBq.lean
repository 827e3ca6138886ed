/- string(b) of bytes; bytes.Equal at slices of bytes -/
import Derived.Test.YtalmmiojbmpmiaaGreatDoorPd
set_option linter.all false
set_option maxRecDepth 100000
namespace Go.Proofs.YtalmmiojbmpmiaaGreatDoor
open Go.RowKit
theorem j13{w:World}{S:Nat->Prop}{A:Option Addr}{n c:Nat}{l:List UInt8}(h:BsS w S (.slice A n c) l):(convert 22 9 (.slice A n c)).run Tryz.prog w=.ok (.string ⟨l.toArray⟩) w:=by
 obtain⟨a,c',hv,h1,h2,h3,h4⟩:=h
 injection hv with e1 e2 e3
 subst e1 e2 e3
 rcases A with _|ad
 ·have hl:l= []:=by
   rcases Nat.eq_zero_or_pos l.length with h0|h0
   ·exact List.eq_nil_of_length_eq_zero h0
   ·obtain⟨_,_,e,_⟩:=h4 h0;cases e
  subst hl
  rw [run_convert_bytes_string w 22 9 5 none _ c Tryz.underlying22 Tryz.underlying5 Tryz.underlying9]
  rfl
 ·refine run_convert_bytes_back w 22 9 5 ad c l Tryz.underlying22 Tryz.underlying5 Tryz.underlying9 fun j hj=> ?_
  obtain⟨b,off,e,_,hc⟩:=h4 (by omega)
  injection e with e
  subst e
  rw [qN,hc j hj]
  simp [gb,bv,hj]
theorem xV(va vb:Value)(a b:List UInt8)(S S':Nat->Prop)(w:World)(ha:BsS w S va a)(hb:BsS w S' vb b):
 Calls Tryz.prog 132 #[va,vb] w fun e w'=>e=.returned (.bool (decide (a=b)))/\w'=w:=by
 obtain⟨A,n,c,rfl⟩:=ha.form
 obtain⟨A',n',c',rfl⟩:=hb.form
 have h1:=j13 ha
 have h2:=j13 hb
 go_enter Tryz.func132,Tryz.ntmps132
 go_wp2_with fail
 go_ret
 rw [show(a==b)=decide (a=b)by rw [Bool.eq_iff_iff];simp]
 exact⟨rfl,rfl⟩
end Go.Proofs.YtalmmiojbmpmiaaGreatDoor
