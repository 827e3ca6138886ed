/- slices.Clone of bytes -/
import Derived.Test.YtalmmiojbmpmiaaGreatDoorProg
import Derived.WalkLawsBesides
import Derived.WalkSpells
import Derived.Test.YtalmmiojbmpmiaaGreatDoorPc
set_option linter.all false
set_option maxRecDepth 100000
set_option maxHeartbeats 400000
namespace Go.Proofs.YtalmmiojbmpmiaaGreatDoor
open Go.RowKit
theorem kC:(Tryz.prog.info? 5).map (fun i=>(i.zero,i.size,i.bytes))=some (some (.int .u8 0),1,1):=by kernel_rfl
abbrev OwnB(w:World)(base:Nat)(v:Value)(l:List UInt8):Prop:=w.ownsRow base 5 1 v l.length (l.map U8)
theorem js(v:Value)(l:List UInt8)(w:World)(hv:Bs w w.heap.size v l):
 Calls Tryz.prog 67 #[v] w fun e w'=>∃v',e=.returned v'/\OwnB w' w.heap.size v' l/\Below w.heap.size w w':=by
 have hlen:=hv.len
 have hv0:=hv
 obtain⟨a,c,rfl,hlc,hc,_,hcell⟩:=hv
 obtain⟨_,hsrc⟩:=hv0.src
 clear hv0
 have heq:∀w,(binOp .eql 22 (.slice a l.length c) (.slice none 0 0)).run Tryz.prog w=.ok (.bool a.isNone) w:=fun w=>Lib.run_eql_slice_nil w _ _ _ _ _ _ _ Tryz.underlying22
 rcases a with _|ad
 ·have hl0:l.length=0:=by
   rcases Nat.eq_zero_or_pos l.length with h|h
   ·exact h
   ·obtain⟨b,off,h',_⟩:=hcell h
    cases h'
  have hl:l= []:=List.eq_nil_of_length_eq_zero hl0
  subst hl
  clear hcell hsrc
  simp only [List.length_nil]at heq |-
  go_enter Tryz.func67,Tryz.ntmps67
  go_wp2
  go_ret
  exact⟨_,rfl,World.ownsRow_nil _ _ _ _,Below.refl _ _⟩
 ·have Hsrc:=iH hsrc;clear hsrc hcell
  go_enter Tryz.func67,Tryz.ntmps67
  have ho0:(w.alloc (.cells #[] 5)).ownsRow w.heap.size 5 1 (.slice (some ⟨w.heap.size,0,none⟩) 0 0) 0 []:=World.ownsRow_lit _ _ _ iL (by simp [maxLen]) rfl
  have Ho0:=iH ho0;clear ho0
  go_wp2_with(at_builtin;go_must(with_reducible refine jn _ rfl (.tmp 5) (.tmp 6) 22 rfl w.heap.size 5 (.int .u8 0) 1 Tryz.underlying22 kC rfl (by omega) (.slice (some ⟨w.heap.size,0,none⟩) 0 0) 0 [] rfl Ho0.out (some ad) l.length c (l.map U8) rfl (Hsrc.out.alloc _) (by omega) (by simp) ?_);intro v1 w1 hown1 hg1 _ _)
  go_ret
  refine⟨v1,rfl,by simpa using hown1,(iA).trans (jj Ho0.out hg1 iL (by simp))⟩
end Go.Proofs.YtalmmiojbmpmiaaGreatDoor
