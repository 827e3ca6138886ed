/- Layer 2: the walks of Parse, Size and Canonical -/
import Derived.Test.YtadndhgebgjlaaaGreatPp
set_option linter.all false
set_option maxRecDepth 100000
set_option maxHeartbeats 1000000
namespace Go.Proofs.YtadndhgebgjlaaaGreat
open Go.RowKit Go.Deep
theorem m1v{P:Prop}(h:P:=by
 rw [iF h2]
 have e:leN 8 n= [ofI n,ofI ((n:Int) / 256)]:=by
  rw [show(8:Nat)=7+1 from rfl,leN,iF (by omega),show(7:Nat)=6+1 from rfl,leN,iF (by omega),show n / 256 / 256=0 by omega,ym]
  rfl
 rw [e]<;>rfl):P:=h
theorem m2u{P:Prop}(h:P:=by
 rw [iT h2]
 have e:leN 8 n= [ofI n]:=by
  rw [show(8:Nat)=7+1 from rfl,leN,iF (by omega),show n / 256=0 by omega,ym]
 rw [e]<;>rfl):P:=h
def j5g:Except Int Ns->Ns
 |.error _=>.nil
 |.ok l=>l
def NodesOut(r:Except Int Ns)(w:World)(e:Ending)(w':World):Prop:=
 ∃v',e=.returned (.tuple #[v',.int .i64 (jV r)])/\NsS w' (New w w') v' (j5g r)/\Below w.heap.size w w'
theorem NodesOut.no{w w':World}{r:Except Int Ns}{e:Int}(hr:r=.error e)(hb:Below w.heap.size w w'):NodesOut r w (.returned (.tuple #[.slice none 0 0,.int .i64 e])) w':=by
 subst hr
 exact⟨_,rfl,NsS.nil0 _ _,hb⟩
theorem NodesOut.yes{w w':World}{r:Except Int Ns}{l:Ns}{v:Value}(hr:r=.ok l)(hv:NsS w' (New w w') v l)(hb:Below w.heap.size w w'):NodesOut r w (.returned (.tuple #[v,.int .i64 0])) w':=by
 subst hr
 exact⟨_,rfl,hv,hb⟩
theorem NodesOut.err{er:Int}{w:World}{e:Ending}{w':World}(h:NodesOut (.error er) w e w'):∃a c,e=.returned (.tuple #[.slice a 0 c,.int .i64 er])/\Below w.heap.size w w':=by
 obtain⟨v,h1,h2,h3⟩:=h
 obtain⟨a,c,rfl⟩:=NsS.form2 h2
 exact⟨a,c,h1,h3⟩
theorem NodesOut.got{l:Ns}{w:World}{e:Ending}{w':World}(h:NodesOut (.ok l) w e w'):∃a c,e=.returned (.tuple #[.slice a l.len c,.int .i64 0])/\NsS w' (New w w') (.slice a l.len c) l/\Below w.heap.size w w':=by
 obtain⟨v,h1,h2,h3⟩:=h
 obtain⟨a,c,rfl⟩:=NsS.form2 h2
 exact⟨a,c,h1,h2,h3⟩
theorem XD(p:Nat)(bv:Value)(st:Bool)(w:World)(hr:Rd w p bv 0 st 0):
 Calls Tryz.prog 112 #[.pointer (some ⟨p,0,none⟩),.int .i64 0,.int .i64 1] w fun e w'=>e=.returned (.tuple #[.slice none 0 0,.int .i64 0])/\w'=w:=by
 have r1:=hr.c1
 clear hr
 go_enter Tryz.func112,Tryz.ntmps112
 go_wp2_with fail
 refine wp_loop_rounds 1 ?_
 rw [rounds_succ]
 go_wp2
 go_ret2
 exact⟨rfl,rfl⟩
section
variable{l:List UInt8}{st:Bool}
include l st
theorem K4(h:4096<l.length):jK l st=.error 2:=by unfold jK;rw [iT h]
theorem KR{er:Int}(h:¬4096<l.length)(hl:jh st l.length l 1 0 false=.error er):jK l st=.error er:=by unfold jK;rw [iF h,hl]
theorem K6{r:Lst}(h:¬4096<l.length)(hl:jh st l.length l 1 0 false=.ok r):jK l st=.ok r.list:=by unfold jK;rw [iF h,hl]
end
theorem j60(B:List UInt8):rst B 0 B.length=B:=by simp [rst]
theorem Ja{w w':World}{o:Obj}(hg:(w.alloc o).grownBy w' (some w.heap.size)):Below w.heap.size w w':=(iB.alloc iL o).trans (j9 hg (by simp) iL)
theorem j08(B:List UInt8)(v:Value)(st:Bool)(w:World)(hv:Bs w w.heap.size v B):Calls Tryz.prog 85 #[v,.bool st] w (NodesOut (jK B st) w):=by
 have hlen:=hv.len
 by_cases h1:4096<B.length
 ·obtain⟨a,c,rfl⟩:=hv.form2
  have E:=iH (K4 (st:=st) h1)
  clear hv
  go_enter Tryz.func85,Tryz.ntmps85
  go_wp2_with fail
  go_ret2
  exact NodesOut.no E.out iB
 ·by_cases h0:B.length=0
  ·have e:B= []:=List.eq_nil_of_length_eq_zero h0
   subst e
   obtain⟨a,c,rfl⟩:=hv.form2
   have E:Hid (jK [] st=.ok .nil):=by exact K6 (by simp) (kx (u:=0) rfl)
   have hr:=XD w.heap.size (.slice a ([]:List UInt8).length c) st (w.alloc (.cells #[.slice a ([]:List UInt8).length c,.int .i64 0,.bool st,.int .i64 0] 131)) (iN)
   have HR:=iH hr
   clear hv hr h0 h1 hlen
   simp only [List.length_nil]at HR |-
   go_enter Tryz.func85,Tryz.ntmps85
   go_wp2_with(go_at_call 112;refine HR.out.mono ?_;rintro e w1 ⟨rfl,rfl⟩)
   go_ret2
   exact NodesOut.yes E.out (NsS.nil0 _ _) (iA)
  ·obtain⟨a,c,rfl⟩:=hv.form2
   obtain⟨bb,bo,rfl⟩:∃b off,a=some ⟨b,off,none⟩:=by
    obtain⟨_,_,hv,_,_,_,h4⟩:=hv
    injection hv with ha _ _
    obtain⟨b,off,e,_⟩:=h4 (by omega)
    exact⟨b,off,ha.trans e⟩
   have hc:=(VL B.length).2 B bb bo c w.heap.size 0 B.length 1 0 st (w.alloc (.cells #[.slice (some ⟨bb,bo,none⟩) B.length c,.int .i64 0,.bool st,.int .i64 0] 131))
    (hv.keep fun b hs hl=>⟨Below.heap_alloc _ _ _ hl,by omega⟩) iL (by omega) (iN) (by omega) (by omega) (by omega) (by omega)
   rw [j60]at hc
   have HC:=iH hc
   cases hl:jh st B.length B 1 0 false with
   |error er=>
    have E:=iH (KR h1 hl)
    rw [hl]at HC
    clear hc hl hv
    go_enter Tryz.func85,Tryz.ntmps85
    go_wp2_with(go_at_call 112;refine HC.out.mono ?_;intro e w1 h1;obtain⟨_,rfl,_,hg⟩:=h1;have Hg:=iH hg;clear hg)
    go_ret2
    exact NodesOut.no E.out (Ja Hg.out)
   |ok r=>
    have E:=iH (K6 h1 hl)
    rw [hl]at HC
    clear hc hl hv
    go_enter Tryz.func85,Tryz.ntmps85
    go_wp2_with(go_at_call 112;refine HC.out.mono ?_;intro e w1 h1;obtain⟨v1,rfl,hv1,_,hg⟩:=h1;obtain⟨va,vc,rfl⟩:=NsS.form2 hv1;have Hv1:=iH hv1;have Hg:=iH hg;clear hg hv1)
    go_ret2
    exact NodesOut.yes E.out (Hv1.out.keep fun b hs _=>⟨rfl,by have:=hs.1;(try simp at this);omega,hs.2⟩) (Ja Hg.out)
def j6g(L:List UInt8->Nat->Nat->Bool->Except Int Lst):Prop:=∀l d c o r,L l d c o=.ok r->r.count=c+r.list.all/\r.list.enc.length<=11*r.list.all+r.used
theorem j51(t:Int)(v:List UInt8)(k r:Ns):(Ns.cons t v k r).enc.length<=11+(if jY t then k.enc else v).length+r.enc.length:=by
 rw [qk t v k r _ rfl]
 have h:=yn (if jY t then k.enc else v).length
 have:(ku t).length<=2:=by unfold ku;split<;>simp
 simp only [List.length_append]
 omega
theorem Us{st:Bool}{L:List UInt8->Nat->Nat->Bool->Except Int Lst}(hL:j6g L)(hS:j4k L){l:List UInt8}{d c:Nat}{o:j3x}(h:yL st L l d c=.ok o):
 o.count=c+1+o.kids.all/\(if jY o.tag then o.kids.enc else o.val).length<=11*o.kids.all+o.used:=by
 unfold yL at h
 split at h
 ·cases h
 ·rename_i t k ht
  split at h
  ·cases h
  ·rename_i n j hs
   split at h
   ·cases h
   ·split at h
    ·cases h
    ·split at h
     ·cases h
     ·split at h
      ·split at h
       ·cases h
       ·rename_i r hr
        injection h with h;subst h
        obtain⟨g1,g2⟩:=hL _ _ _ _ _ hr
        simp only
        refine⟨g1,?_⟩
        split<;>(try simp)<;>omega
      ·split at h
       ·split at h
        ·cases h
        ·rename_i r hr
         injection h with h;subst h
         obtain⟨g1,g2⟩:=hL _ _ _ _ _ hr
         simp only
         refine⟨g1,?_⟩
         have hu:r.used<=n.toNat:=by
          have h9:¬256<c+1:=by assumption
          have:=((hS _ (d+1) (c+1) false (by omega)).1 r hr).1
          rw [List.length_take]at this
          omega
         split<;>(try simp)<;>omega
       ·injection h with h;subst h
        rename_i h5
        simp only
        refine⟨rfl,?_⟩
        rw [iF h5]
        simp
        omega
theorem Zy(st:Bool)(n:Nat):j6g (jh st n):=by
 induction n with
 |zero=>
  intro l d c o r h
  rw [jh]at h
  split at h
  ·cases h
  ·injection h with h;subst h;exact⟨rfl,Nat.zero_le _⟩
  ·cases h
 |succ n ih=>
  intro l d c o r h
  rw [jh]at h
  split at h
  ·cases h
  ·injection h with h;subst h;exact⟨rfl,Nat.zero_le _⟩
  · (try simp only at h)
    cases ho:yL st (jh st n) l d c with
    |error e=>rw [ho]at h;cases h
    |ok x=>
     rw [ho]at h
     (try simp only at h)
     obtain⟨x1,x2⟩:=Us ih (jP st n) ho
     cases hr:jh st n (l.drop x.used) d x.count o with
     |error e=>rw [hr]at h;cases h
     |ok q=>
      rw [hr]at h
      injection h with h;subst h
      obtain⟨y1,y2⟩:=ih _ _ _ _ _ hr
      have:=j51 x.tag x.val x.kids q.list
      refine⟨by simp only [Ns.all];omega,by simp only [Ns.all];omega⟩
theorem XI{B:List UInt8}{st:Bool}{l:Ns}(h:jK B st=.ok l):l.all<=256/\l.enc.length<=10000:=by
 unfold jK at h
 split at h
 ·cases h
 ·rename_i h4
  cases hr:jh st B.length B 1 0 false with
  |error e=>rw [hr]at h;cases h
  |ok r=>
   rw [hr]at h
   injection h with h;subst h
   obtain⟨h1,h2⟩:=Zy st B.length B 1 0 false r hr
   obtain⟨h5,h6,_⟩:=(jP st B.length B 1 0 false (by omega)).1 r hr
   omega
theorem zP{B:List UInt8}{st:Bool}{er:Int}(h:jK B st=.error er):er≠0:=by
 unfold jK at h
 split at h
 ·injection h with h;omega
 ·cases hr:jh st B.length B 1 0 false with
  |error e=>rw [hr]at h;injection h with h;subst h;exact(jP st B.length B 1 0 false (by omega)).2 _ hr
  |ok r=>rw [hr]at h;cases h
end Go.Proofs.YtadndhgebgjlaaaGreat
