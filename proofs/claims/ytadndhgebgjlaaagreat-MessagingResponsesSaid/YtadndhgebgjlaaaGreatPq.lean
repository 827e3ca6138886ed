/- Layer 2: the walks of Parse, Size and Canonical -/
import Derived.Test.YtadndhgebgjlaaaGreatPp
set_option linter.unusedVariables false
set_option linter.unusedSimpArgs false
set_option linter.unnecessarySimpa false
set_option maxRecDepth 100000
set_option maxHeartbeats 1000000
namespace Go.Proofs.YtadndhgebgjlaaaGreat
open Go.RowKit Go.Deep
def j4d:Except Int Ns->Ns
 |.error _=>.nil
 |.ok l=>l
def NodesOut(r:Except Int Ns)(w:World)(e:Ending)(w':World):Prop:=
 ∃v',e=.returned (.tuple #[v',.int .i64 (ky r)])/\NsS w' (New w w') v' (j4d r)/\Below w.heap.size w w'
theorem NodesOut.no{w w':World}{r:Except Int Ns}{e:Int}(hr:r=.error e)(hb:Below w.heap.size w w'):NodesOut r w (.returned (.tuple #[.slice none 0 0,.int .i64 e])) w':=by
 subst hr
 exact⟨_,rfl,NsS.nil0 _ _,hb⟩
theorem NodesOut.yes{w w':World}{r:Except Int Ns}{l:Ns}{v:Value}(hr:r=.ok l)(hv:NsS w' (New w w') v l)(hb:Below w.heap.size w w'):NodesOut r w (.returned (.tuple #[v,.int .i64 0])) w':=by
 subst hr
 exact⟨_,rfl,hv,hb⟩
theorem NodesOut.err{er:Int}{w:World}{e:Ending}{w':World}(h:NodesOut (.error er) w e w'):∃a c,e=.returned (.tuple #[.slice a 0 c,.int .i64 er])/\Below w.heap.size w w':=by
 obtain⟨v,h1,h2,h3⟩:=h
 obtain⟨a,c,rfl⟩:=NsS.form2 h2
 exact⟨a,c,h1,h3⟩
theorem NodesOut.got{l:Ns}{w:World}{e:Ending}{w':World}(h:NodesOut (.ok l) w e w'):∃a c,e=.returned (.tuple #[.slice a l.len c,.int .i64 0])/\NsS w' (New w w') (.slice a l.len c) l/\Below w.heap.size w w':=by
 obtain⟨v,h1,h2,h3⟩:=h
 obtain⟨a,c,rfl⟩:=NsS.form2 h2
 exact⟨a,c,h1,h2,h3⟩
theorem QY(p:Nat)(bv:Value)(st:Bool)(w:World)(hr:Rd w p bv 0 st 0):
 Calls Tryz.prog 112 #[.pointer (some ⟨p,0,none⟩),.int .i64 0,.int .i64 1] w fun e w'=>e=.returned (.tuple #[.slice none 0 0,.int .i64 0])/\w'=w:=by
 have r1:=hr.c1
 clear hr
 go_enter Tryz.func112,Tryz.ntmps112
 go_wp2_with fail
 refine wp_loop_rounds 1 ?_
 rw [rounds_succ]
 go_wp2
 go_ret2
 exact⟨rfl,rfl⟩
theorem Ju{l:List UInt8}{st:Bool}(h:4096<l.length):jO l st=.error 2:=by unfold jO;rw [iT h]
theorem Kr{l:List UInt8}{st:Bool}{er:Int}(h:¬4096<l.length)(hl:jg st l.length l 1 0 false=.error er):jO l st=.error er:=by unfold jO;rw [iF h,hl]
theorem Jv{l:List UInt8}{st:Bool}{r:Lst}(h:¬4096<l.length)(hl:jg st l.length l 1 0 false=.ok r):jO l st=.ok r.list:=by unfold jO;rw [iF h,hl]
theorem j4x(B:List UInt8):rst B 0 B.length=B:=by simp [rst]
theorem yF{w w':World}{o:Obj}(hg:(w.alloc o).grownBy w' (some w.heap.size)):Below w.heap.size w w':=(iB.alloc iL o).trans (j8 hg (by simp) iL)
theorem Vp(B:List UInt8)(v:Value)(st:Bool)(w:World)(hv:Bs w w.heap.size v B):Calls Tryz.prog 85 #[v,.bool st] w (NodesOut (jO B st) w):=by
 have hlen:=hv.len
 by_cases h1:4096<B.length
 ·obtain⟨a,c,rfl⟩:=hv.form2
  have E:=iH (Ju (st:=st) h1)
  clear hv
  go_enter Tryz.func85,Tryz.ntmps85
  go_wp2_with fail
  go_ret2
  exact NodesOut.no E.out iB
 ·by_cases h0:B.length=0
  ·have e:B= []:=List.eq_nil_of_length_eq_zero h0
   subst e
   obtain⟨a,c,rfl⟩:=hv.form2
   have E:Hid (jO [] st=.ok .nil):=by exact Jv (by simp) (kj (u:=0) rfl)
   have hr:=QY w.heap.size (.slice a ([]:List UInt8).length c) st (w.alloc (.cells #[.slice a ([]:List UInt8).length c,.int .i64 0,.bool st,.int .i64 0] 131)) (iN)
   have HR:=iH hr
   clear hv hr h0 h1 hlen
   simp only [List.length_nil]at HR |-
   go_enter Tryz.func85,Tryz.ntmps85
   go_wp2_with(go_at_call 112;refine HR.out.mono ?_;rintro e w1 ⟨rfl,rfl⟩)
   go_ret2
   exact NodesOut.yes E.out (NsS.nil0 _ _) (iA)
  ·obtain⟨a,c,rfl⟩:=hv.form2
   obtain⟨bb,bo,rfl⟩:∃b off,a=some ⟨b,off,none⟩:=by
    obtain⟨_,_,hv,_,_,_,h4⟩:=hv
    injection hv with ha _ _
    obtain⟨b,off,e,_⟩:=h4 (by omega)
    exact⟨b,off,ha.trans e⟩
   have hc:=(UW B.length).2 B bb bo c w.heap.size 0 B.length 1 0 st (w.alloc (.cells #[.slice (some ⟨bb,bo,none⟩) B.length c,.int .i64 0,.bool st,.int .i64 0] 131))
    (hv.keep fun b hs hl=>⟨Below.heap_alloc _ _ _ hl,by omega⟩) iL (by omega) (iN) (by omega) (by omega) (by omega) (by omega)
   rw [j4x]at hc
   have HC:=iH hc
   cases hl:jg st B.length B 1 0 false with
   |error er=>
    have E:=iH (Kr h1 hl)
    rw [hl]at HC
    clear hc hl hv
    go_enter Tryz.func85,Tryz.ntmps85
    go_wp2_with(go_at_call 112;refine HC.out.mono ?_;intro e w1 h1;obtain⟨_,rfl,_,hg⟩:=h1;have Hg:=iH hg;clear hg)
    go_ret2
    exact NodesOut.no E.out (yF Hg.out)
   |ok r=>
    have E:=iH (Jv h1 hl)
    rw [hl]at HC
    clear hc hl hv
    go_enter Tryz.func85,Tryz.ntmps85
    go_wp2_with(go_at_call 112;refine HC.out.mono ?_;intro e w1 h1;obtain⟨v1,rfl,hv1,_,hg⟩:=h1;obtain⟨va,vc,rfl⟩:=NsS.form2 hv1;have Hv1:=iH hv1;have Hg:=iH hg;clear hg hv1)
    go_ret2
    exact NodesOut.yes E.out (Hv1.out.keep fun b hs _=>⟨rfl,by have:=hs.1;(try simp at this);omega,hs.2⟩) (yF Hg.out)
theorem Jt{B:List UInt8}{st:Bool}{er:Int}(h:jO B st=.error er):er≠0:=by
 unfold jO at h
 split at h
 ·injection h with h;omega
 ·cases hr:jg st B.length B 1 0 false with
  |error e=>rw [hr]at h;injection h with h;subst h;exact(jS st B.length B 1 0 false (by omega)).2 _ hr
  |ok r=>rw [hr]at h;cases h
end Go.Proofs.YtadndhgebgjlaaaGreat
