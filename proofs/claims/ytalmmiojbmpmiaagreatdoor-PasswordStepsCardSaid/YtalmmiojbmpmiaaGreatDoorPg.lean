/- made.Mod; made.Dice: what it is that a pointer points at dice, and Next, One -/
import Derived.Test.YtalmmiojbmpmiaaGreatDoorPf
set_option linter.all false
set_option maxRecDepth 100000
set_option maxHeartbeats 1000000
namespace Go.Proofs.YtalmmiojbmpmiaaGreatDoor
open Go.RowKit Go.Deep
theorem j56(n m:Int)(hn:zI n)(hm:0<m)(hm2:m<=9223372036854775807)(w:World):Calls Tryz.prog 95 #[.int .i64 n,.int .i64 m] w fun e w'=>e=.returned (.int .i64 (n % m))/\w'=w:=by
 obtain⟨h1,h2⟩:=hn
 have hz:m≠0:=by omega
 have a1:Int.tmod n m<m:=Int.tmod_lt_of_pos n hm
 have a2: -m<Int.tmod n m:=by
  have:=Int.lt_tmod_of_pos n hm
  omega
 obtain⟨q,hq⟩:∃q,Int.tmod n m=q:=⟨_,rfl⟩
 rw [hq]at a1 a2
 have e:n % m=if q<0 then q+m else q:=by
  have h:=Int.tmod_add_mul_tdiv n m
  rw [hq]at h
  split
  ·have:=Int.emod_eq_of_lt (a:=q+m) (b:=m) (by omega) (by omega)
   rw [<-this,<-h,Int.add_mul_emod_self_left,<-Int.add_emod_right]
  ·have:=Int.emod_eq_of_lt (a:=q) (b:=m) (by omega) (by omega)
   rw [<-h,Int.add_mul_emod_self_left,this]
 have E:=iH e
 by_cases hneg:q<0
 ·rw [iT hneg]at e
  have E:=iH e
  clear e
  go_enter Tryz.func95,Tryz.ntmps95
  go_wp2_with fail
  go_ret
  rw [E.out]
  exact⟨rfl,rfl⟩
 ·rw [iF hneg]at e
  have E:=iH e
  clear e
  go_enter Tryz.func95,Tryz.ntmps95
  go_wp2_with fail
  go_ret
  rw [E.out]
  exact⟨rfl,rfl⟩
def IntsS(w:World)(S:Nat->Prop)(v:Value)(n:Nat):Prop:=
 ∃a c,v=.slice a n c/\n<=c/\c<=9223372036854775807/\n<=1000000000000000000/\
  (0<n->∃b off,a=some ⟨b,off,none⟩/\S b/\b<w.heap.size/\∀j,j<n->∃z,zI z/\w.cell? ⟨b,off+j,none⟩=some (.int .i64 z))
theorem IntsS.keep{w w':World}{S S':Nat->Prop}{v:Value}{n:Nat}(h:IntsS w S v n)(hk:∀b,S b->b<w.heap.size->w'.heap[b]?=w.heap[b]?/\S' b):IntsS w' S' v n:=by
 obtain⟨a,c,e,h1,h2,h3,h4⟩:=h
 refine⟨a,c,e,h1,h2,h3,fun h0=> ?_⟩
 obtain⟨b,off,ea,hb,hl,hr⟩:=h4 h0
 refine⟨b,off,ea,(hk b hb hl).2,yt (hk b hb hl).1 hl,fun j hj=> ?_⟩
 obtain⟨z,hz,hc⟩:=hr j hj
 exact⟨z,hz,(by simp [World.cell?,(hk b hb hl).1]:w'.cell? ⟨b,off+j,none⟩=w.cell? ⟨b,off+j,none⟩).trans hc⟩
theorem IntsS.form{w:World}{S:Nat->Prop}{v:Value}{n:Nat}(h:IntsS w S v n):∃a c,v=.slice a n c:=by
 obtain⟨a,c,e,_⟩:=h;exact⟨a,c,e⟩
def Die(B:Nat)(w:World)(p n:Nat):Prop:=
 ∃v at_,at_<=n/\w.heap[p]?=some (.cells #[v,.int .i64 (at_:Nat)] 68 (0,0))/\IntsS w (fun b=>b≠p/\b<B) v n/\p<B/\B<=w.heap.size
theorem Die.lt{B:Nat}{w:World}{p n:Nat}(h:Die B w p n):p<B:=by obtain⟨_,_,_,_,_,h,_⟩:=h;exact h
theorem Die.le{B:Nat}{w:World}{p n:Nat}(h:Die B w p n):B<=w.heap.size:=by obtain⟨_,_,_,_,_,_,h⟩:=h;exact h
theorem Die.keep{B:Nat}{w w':World}{p n:Nat}(h:Die B w p n)(hs:w.heap.size<=w'.heap.size)(hk:∀b,b<B->w'.heap[b]?=w.heap[b]?):Die B w' p n:=by
 obtain⟨v,a,h1,h2,h3,h4,h5⟩:=h
 exact⟨v,a,h1,(hk p h4).trans h2,h3.keep fun b hs _=>⟨hk b hs.2,hs⟩,h4,Nat.le_trans h5 hs⟩
theorem Die.below{B:Nat}{w w':World}{p n:Nat}(h:Die B w p n)(hb:Below B w w'):Die B w' p n:=h.keep hb.size hb.block
theorem Die.alloc{B:Nat}{w:World}{p n:Nat}(h:Die B w p n)(o:Obj):Die B (w.alloc o) p n:=h.keep (by simp) fun b hl=>Below.heap_alloc _ _ _ (iZ hl h.le)
theorem two{w:World}{X:Nat}{a b:Value}{t:TypeId}(h:w.heap[X]?=some (.cells #[a,b] t (0,0))):w.cell? ⟨X,0,none⟩=some a/\w.cell? ⟨X,1,none⟩=some b/\∀o,w.frozen? ⟨X,o,none⟩=false:=by
 refine⟨?_,?_,fun o=>by simp [World.frozen?,h]⟩<;>(rw [cell_of_row _ _ _ _ _ _ h]<;>rfl)
theorem U2{w:World}{p:Nat}{a b u:Value}{t:TypeId}(h:w.heap[p]?=some (.cells #[a,b] t (0,0))):(w.setCell ⟨p,1,none⟩ u).heap[p]?=some (.cells #[a,u] t (0,0)):=by
 show(w.heap.modify p _)[p]?=_
 rw [Array.getElem?_modify,iT rfl,h]
 rfl
def DiePost(B:Nat)(w:World)(p n:Nat)(w':World):Prop:=Die B w' p n/\w.grownBy w' (some p)
theorem DiePost.trans{B:Nat}{w w1 w2:World}{p n:Nat}(h1:DiePost B w p n w1)(h2:DiePost B w1 p n w2):DiePost B w p n w2:=⟨h2.1,ky h1.2 h2.2⟩
section
variable(B p n:Nat)(m:Int)(w:World)(h:Die B w p n)(hm:0<m)(hm2:m<=1000000000000)
include B p n m w h hm hm2
theorem kU:
 Calls Tryz.prog 42 #[.pointer (some ⟨p,0,none⟩),.int .i64 m] w fun e w'=>∃z:Nat,e=.returned (.int .i64 z)/\(z:Int)<m/\DiePost B w p n w':=by
 have hD:=iH h
 obtain⟨v,k,hk,hp,⟨a,c,rfl,hnc,hc9,hn9,hcells⟩,hpB,hBs⟩:=h
 obtain⟨c0,c1,cf⟩:=two hp
 have f1:=cf 1
 have HP:=iH hp
 clear hp cf
 by_cases hkn:k=n
 ·subst hkn
  clear hcells
  go_enter Tryz.func42,Tryz.ntmps42
  go_wp2_with fail
  go_quiet (fail)
  go_wp2_with fail
  go_ret
  exact⟨0,rfl,hm,hD.out.keep iL fun b hl=>rfl,jw (World.grownBy.refl _ _) _⟩
 ·have hkl:k<n:=by omega
  obtain⟨b,off,rfl,hbp,hbl,hz⟩:=hcells (by omega)
  obtain⟨z,hz1,hz2⟩:=hz k hkl
  have Hz:=iH hz
  have hkk:(k:Int)<n:=by omega
  have hpl:p<w.heap.size:=iZ hpB hBs
  have M:=iH (fun w=>j56 z m hz1 hm (by omega) w)
  have hz0:0<=z % m:=Int.emod_nonneg _ (by omega)
  have hz3:z % m<m:=Int.emod_lt_of_pos _ hm
  obtain⟨r,hr⟩:∃r:Nat,Hid (z % m=r):=⟨(z % m).toNat,by show _=_;omega⟩
  rw [hr.out]at M hz3
  clear hkn hcells hz hz0 hz1
  go_enter Tryz.func42,Tryz.ntmps42
  go_wp2_with fail
  go_quiet (fail)
  go_wp2_with fail
  go_quiet ((go_at_call 95;exact Calls.quiet_of_same (M.out _)))
  go_wp2_with fail
  go_ret
  obtain⟨v',k',hk',hp',hI,_,_⟩:=hD.out
  have e:=HP.out.symm.trans hp'
  have hI2:IntsS w (fun b=>b≠p/\b<B) (.slice (some ⟨b,off,none⟩) n c) n:=by
   injection e with e;injection e with e1 _ _;injection e1 with e1;injection e1 with e1 _;rw [e1];exact hI
  exact⟨r,rfl,hz3,⟨_,k+1,by omega,U2 HP.out,hI2.keep fun b' hs hb=>⟨iO hs.1,hs⟩,hpB,by simpa [World.setCell]using hBs⟩,jw (j7 (jw (World.grownBy.refl _ _) _) (.inl rfl) _) _⟩
theorem ZR:
 Calls Tryz.prog 13 #[.pointer (some ⟨p,0,none⟩),.int .i64 m] w fun e w'=>∃b:Bool,e=.returned (.bool b)/\DiePost B w p n w':=by
 have N:=iH (kU B p n m w h hm hm2)
 clear h
 go_enter Tryz.func13,Tryz.ntmps13
 go_wp2_with(go_at_call 42;refine N.out.mono ?_;rintro e w1 ⟨z,rfl,hz,hd⟩;have HD:=iH hd;clear hd)
 go_ret
 exact⟨_,rfl,HD.out⟩
end
theorem VX(S:Nat->Prop)(v:Value)(n:Nat)(w:World)(h:IntsS w S v n):Calls Tryz.prog 10 #[v] w fun e w'=>e=.returned (.bool (decide ((n:Int)<=400)))/\w'=w:=by
 obtain⟨a,c,rfl⟩:=h.form
 clear h
 go_enter Tryz.func10,Tryz.ntmps10
 go_wp2_with fail
 go_ret
 exact⟨rfl,rfl⟩
theorem j3c(v:Value)(n:Nat)(w:World)(h:IntsS w (·<w.heap.size) v n):Calls Tryz.prog 12 #[v] w fun e w'=>e=.returned (.pointer (some ⟨w.heap.size,0,none⟩))/\Die (w.heap.size+1) w' w.heap.size n/\Below w.heap.size w w':=by
 obtain⟨a,c,rfl⟩:=h.form
 have H:=iH h
 clear h
 go_enter Tryz.func12,Tryz.ntmps12
 go_wp2_with fail
 go_ret
 exact⟨rfl,⟨_,0,by omega,iN,H.out.keep fun b hs hb=>⟨Below.heap_alloc _ _ _ hb,by omega,by omega⟩,Nat.lt_succ_self _,by simp⟩,iA⟩
end Go.Proofs.YtalmmiojbmpmiaaGreatDoor
