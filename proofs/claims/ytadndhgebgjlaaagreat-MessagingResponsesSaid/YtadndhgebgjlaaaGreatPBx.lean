/- made.Dice: Exactly; made.Dice: Session; words for what the dice make; made.Dice: Command; made.Dice: Response, OddCommand, OddSession; Words: sessions, comma... -/
import Derived.Deep.CutBlock
import Derived.Test.YtadndhgebgjlaaaGreatPBw
import Derived.Test.YtadndhgebgjlaaaGreatPBv
import Derived.Test.YtadndhgebgjlaaaGreatPBu
set_option linter.unusedVariables false
set_option linter.unusedSimpArgs false
set_option linter.unnecessarySimpa false
set_option maxRecDepth 100000
set_option maxHeartbeats 40000000
namespace Go.Proofs.YtadndhgebgjlaaaGreat
open Go.RowKit Go.Deep
theorem XP(B p n m:Nat)(w:World)(h:Die B w p n)(hm:m<=100000):
 Calls Tryz.prog 26 #[.pointer (some ⟨p,0,none⟩),.int .i64 m] w fun e w'=>∃v l,e=.returned v/\BsS w' (New w w') v l/\l.length=m/\DiePost B w p n w':=by
 have H0:=iH (DRow.start h)
 clear h
 go_enter Tryz.func26,Tryz.ntmps26
 go_wp2_with fail
 go_loopg [5,6] m (fun q o i wr=>∃l:List UInt8,l.length+q=m/\i=.int .i64 l.length/\DRow B w wr p n o l)
 case atStart=>exact⟨[],by simp,rfl,H0.out⟩
 case round=>
  obtain⟨l,hl,rfl,hR⟩:=hrel
  obtain⟨oa,oc,rfl⟩:=hR.own.form
  have HR:=iH hR
  clear hR
  by_cases hq:gk=0
  ·subst hq
   have hlm:¬(l.length:Int)<m:=by omega
   go_wp2_with fail
   go_ret
   exact⟨_,rfl,l,HR.out.own.out (by omega) w iL,by omega,HR.out.2.1⟩
  ·have hq1:0<gk:=by omega
   have hlm:(l.length:Int)<m:=by omega
   clear hq
   go_wp2_with(first
    |(at_builtin;(with_reducible refine xi rfl (.tmp 12) (.tmp 16) rfl w.heap.size (.slice oa l.length oc) l rfl HR2.out.own (z:Int) (by omega) (by omega) _ w2.heap.size rfl rfl (by omega) HR2.out.size ?_);intro v3 w3 hgr;have H3:=iH (HR2.out.grew hgr);clear hgr)
    |(go_at_call 15;refine(jT B p n _ _ HR.out.die (by decide) (by decide)).mono ?_;rintro e w2 ⟨z,rfl,hz,hd⟩;have HR2:=iH (HR.out.call hd);clear hd))
   go_roundg (gk - 1)
   case measure=>omega
   case rel=>exact⟨_,by simp;omega,by simp,H3.out⟩
theorem DiePost.refl{B:Nat}{w:World}{p n:Nat}(h:Die B w p n):DiePost B w p n w:=⟨h,World.grownBy.refl _ _⟩
theorem DiePost.alloc{B:Nat}{w w1:World}{p n:Nat}(h:DiePost B w p n w1)(o:Obj):DiePost B w p n (w1.alloc o):=⟨h.1.alloc o,jQ h.2 o⟩
theorem DiePost.set{B:Nat}{w w1:World}{p n g k:Nat}(h:DiePost B w p n w1)(hB:B<=w.heap.size)(hg:w.heap.size<=g)(u:Value):DiePost B w p n (w1.setCell ⟨g,k,none⟩ u):=
 ⟨h.1.keep (by simp) fun b hb=>iO (by show b≠g;omega),j23 h.2 (ja (World.grownBy.refl _ _) (.inl rfl) _) hg⟩
theorem DiePost.below{B:Nat}{w w1 w2:World}{p n:Nat}(h:DiePost B w p n w1)(hb:Below w1.heap.size w1 w2):DiePost B w p n w2:=
 ⟨h.1.below (hb.mono h.1.le),kd h.2 (jv hb _)⟩
theorem DiePost.blk{B:Nat}{w w1:World}{p n k:Nat}(h:DiePost B w p n w1)(hk:k<w.heap.size)(hp:k≠p):w1.heap[k]?=w.heap[k]? :=h.2.block k hk fun e=>by injection e with e;exact hp e
theorem DiePost.set3{B:Nat}{w w1:World}{p n g:Nat}(h:DiePost B w p n w1)(hB:B<=w.heap.size)(hg:w.heap.size<=g)(a b c:Value):DiePost B w p n (set3 w1 g a b c):=((h.set hB hg a).set hB hg b).set hB hg c
def Btw(lo hi:Nat):Nat->Prop:=fun g=>lo<=g/\g<hi
theorem BsS.btw{w w1:World}{v:Value}{l:List UInt8}(h:BsS w1 (New w w1) v l){lo:Nat}(hl:lo<=w.heap.size):BsS w1 (Btw lo w1.heap.size) v l:=h.keep fun b hs _=>⟨rfl,by have:=hs.1;omega,hs.2⟩
theorem BsS.roll{B:Nat}{w1 w2:World}{p n lo hi:Nat}{v:Value}{l:List UInt8}(h:BsS w1 (Btw lo hi) v l)(hd:DiePost B w1 p n w2)(hp:p<lo):BsS w2 (Btw lo w2.heap.size) v l:=
 h.keep fun b hs hl=>⟨hd.blk hl (by have:=hs.1;omega),hs.1,iZ hl hd.2.size⟩
theorem BsS.fix{w1 w2:World}{lo hi:Nat}{v:Value}{l:List UInt8}(h:BsS w1 (Btw lo hi) v l)(hk:∀b,lo<=b->b<hi->w2.heap[b]?=w1.heap[b]?):BsS w2 (Btw lo hi) v l:=h.keep fun b hs _=>⟨hk b hs.1 hs.2,hs⟩
theorem BsS.wide{w1:World}{lo hi lo' hi':Nat}{v:Value}{l:List UInt8}(h:BsS w1 (Btw lo hi) v l)(h1:lo'<=lo)(h2:hi<=hi'):BsS w1 (Btw lo' hi') v l:=h.keep fun b hs _=>⟨rfl,by have:=hs.1;omega,by have:=hs.2;omega⟩
theorem UE(B p n:Nat)(w:World)(h:Die B w p n):
 Calls Tryz.prog 26 #[.pointer (some ⟨p,0,none⟩),.int .i64 16] w fun e w'=>∃v l,e=.returned v/\BsS w' (New w w') v l/\l.length=16/\DiePost B w p n w':=XP B p n 16 w h (by decide)
def j2x(B:Nat)(w:World)(p n:Nat)(P:List UInt8->List UInt8->Int->Prop)(e:Ending)(w':World):Prop:=∃v k1 k2 m,e=.returned v/\qr w' (New w w') v k1 k2 m/\P k1 k2 m/\DiePost B w p n w'
theorem ZX{B p n hi:Nat}{w w7:World}{a b:Value}{k1 k2:List UInt8}{m:Int}{P:List UInt8->List UInt8->Int->Prop}(hB:B<=w.heap.size)(ha:BsS w7 (Btw (w.heap.size+1) hi) a k1)(hb:BsS w7 (Btw (w.heap.size+1) hi) b k2)(hv:P k1 k2 m)(hd:DiePost B w p n w7):
 j2x B w p n P (.returned (.agg #[a,b,.int .i64 m])) (set3 w7 w.heap.size a b (.int .i64 m)):=by
 have key:∀ {v:Value} {l:List UInt8},BsS w7 (Btw (w.heap.size+1) hi) v l->BsS (set3 w7 w.heap.size a b (.int .i64 m)) (New w (set3 w7 w.heap.size a b (.int .i64 m))) v l:=fun h=>
  h.keep fun g hs hl=>⟨jD (by have:=hs.1;omega),by have:=hs.1;omega,by simpa [Go.Proofs.YtadndhgebgjlaaaGreat.set3]using hl⟩
 exact⟨_,k1,k2,m,rfl,⟨a,b,rfl,key ha,key hb⟩,hv,hd.set3 hB iL _ _ _⟩
theorem QF(B p n:Nat)(w:World)(h:Die B w p n):Calls Tryz.prog 10 #[.pointer (some ⟨p,0,none⟩)] w (j2x B w p n fun k1 k2 m=>vS k1 k2 m=true):=by
 obtain⟨w0,hw0⟩:∃w0,w0=w.alloc (.cells #[.slice none 0 0,.slice none 0 0,.int .i64 0] 29):=⟨_,rfl⟩
 have D0:Hid (DiePost B w p n w0):=iH (by rw [hw0];exact(DiePost.refl h).alloc _)
 have R0:Hid (w0.heap[w.heap.size]?=some (.cells #[.slice none 0 0,.slice none 0 0,.int .i64 0] 29 (0,0))):=iH (by rw [hw0];exact iN)
 have z0:w0.heap.size=w.heap.size+1:=by rw [hw0];simp
 have HW0:=iH hw0
 have hBw:=h.le
 have hpB:=h.lt
 clear h hw0
 go_enter Tryz.func10,Tryz.ntmps10
 go_upto_region 1 with fail
 rw [<-HW0.out]
 go_upto_region 2 with (first
  |(go_at_call 15;refine(jT B p n 1048576 w2 D2.out.1 (by decide) (by decide)).mono ?_;rintro e w3 ⟨z,rfl,hz,hd⟩;have D3:=iH (D2.out.trans hd);have V13:=iH (V12.out.roll hd (by omega));have R3:=iH ((hd.blk (k:=w.heap.size) (by omega) (by omega)).trans R2.out);have V23:=iH (V22.out.roll hd (by omega));have z3:=hd.2.size;clear hd)
  |(go_at_call 26;refine(UE B p n w1 D1.out.1).mono ?_;rintro e w2 ⟨v2,k2,rfl,hv,hl2,hd⟩;obtain⟨A2,c2,hp⟩:=Bs.formL hv;rw [hl2]at hp;subst hp;have L2:=iH hl2;have D2:=iH (D1.out.trans hd);have V12:=iH (V11.out.roll hd (by omega));have R2:=iH ((hd.blk (k:=w.heap.size) (by omega) (by omega)).trans R1.out);have V22:=iH (hv.btw (lo:=w0.heap.size) (by omega));have z2:=hd.2.size;clear hd hv hl2)
  |(go_at_call 26;refine(UE B p n w0 D0.out.1).mono ?_;rintro e w1 ⟨v1,k1,rfl,hv,hl1,hd⟩;obtain⟨A1,c1,hp⟩:=Bs.formL hv;rw [hl1]at hp;subst hp;have L1:=iH hl1;have D1:=iH (D0.out.trans hd);have V11:=iH (hv.btw (lo:=w0.heap.size) (by omega));have R1:=iH ((hd.blk (k:=w.heap.size) (by omega) (by omega)).trans R0.out);have z1:=hd.2.size;clear hd hv hl1))
 obtain⟨w4,hw4⟩:∃w4,w4=w3.alloc (.cells #[.slice A1 16 c1,.slice A2 16 c2,.int .i64 z] 29):=⟨_,rfl⟩
 rw [<-hw4]
 have D4:Hid (DiePost B w p n w4):=iH (by rw [hw4];exact D3.out.alloc _)
 have B4:Hid (Below w3.heap.size w3 w4):=iH (by rw [hw4];exact iA)
 have R4:Hid (w4.heap[w3.heap.size]?=some (.cells #[.slice A1 16 c1,.slice A2 16 c2,.int .i64 z] 29 (0,0))):=iH (by rw [hw4];exact iN)
 have z4:w4.heap.size=w3.heap.size+1:=by rw [hw4];simp
 clear hw4
 go_upto_if 12 with (go_at_call 12;refine(Vh B p n 9 w4 D4.out.1 (by decide) (by decide)).mono ?_;rintro e w5 ⟨b5,rfl,hd⟩;have D5:=iH hd;clear hd)
 cases b5
 ·obtain⟨w7,hw7⟩:∃w7,w7=w5:=⟨_,rfl⟩
  rw [<-hw7]
  obtain⟨M,hM⟩:∃M:Int,M=z:=⟨_,rfl⟩
  have D7:Hid (DiePost B w p n w7):=iH (by rw [hw7];exact D4.out.trans D5.out)
  have K7:Hid (∀b,b<w4.heap.size->b≠p->w7.heap[b]?=w4.heap[b]?):=iH (by rw [hw7];exact fun b h1 h2=>D5.out.blk h1 h2)
  have T7:Hid (w7.heap[w3.heap.size]?=some (.cells #[.slice A1 16 c1,.slice A2 16 c2,.int .i64 M] 29 (0,0))):=iH ((K7.out _ (by omega) (by omega)).trans (by rw [hM];exact R4.out))
  have M0:0<=M:=by omega
  have M1:M<=1099511627776:=by omega
  clear hw7 hM
  have R7:Hid (w7.heap[w.heap.size]?=some (.cells #[.slice none 0 0,.slice none 0 0,.int .i64 0] 29 (0,0))):=iH ((K7.out _ (by omega) (by omega)).trans ((B4.out.block _ (by omega)).trans R3.out))
  have X1:Hid (BsS w7 (Btw (w.heap.size+1) w3.heap.size) (.slice A1 16 c1) k1):=iH ((V13.out.wide (by omega) iL).fix fun b h1 h2=>(K7.out b (by omega) (by omega)).trans (B4.out.block b h2))
  have X2:Hid (BsS w7 (Btw (w.heap.size+1) w3.heap.size) (.slice A2 16 c2) k2):=iH ((V23.out.wide (by omega) iL).fix fun b h1 h2=>(K7.out b (by omega) (by omega)).trans (B4.out.block b h2))
  have hz7:w7.heap[w.heap.size]?=some (.cells #[.slice none 0 0,.slice none 0 0,.int .i64 0] 29 (0,0)):=R7.out
  obtain⟨q0,q1,q2,_⟩:=j9 T7.out
  obtain⟨z0,z1,z2,zf⟩:=j9 hz7
  have zf0:=zf 0;have zf1:=zf 1;have zf2:=zf 2
  obtain⟨y0,y1,y2,_⟩:=j9 (kh (.slice A1 16 c1) (.slice A2 16 c2) (.int .i64 M) R7.out)
  clear hz7 zf
  go_wp2_with fail
  refine bodyPost_ret (v:=.agg #[.slice A1 16 c1,.slice A2 16 c2,.int .i64 M]) (by simp only [set3]at y0 y1 y2;simp [results,Tryz.results10,go_sem,y0,y1,y2]) rfl ?_
  exact ZX (hi:=w3.heap.size) (P:=fun k1 k2 m=>vS k1 k2 m=true) hBw X1.out X2.out (decide_eq_true ⟨L1.out,L2.out,M0,M1⟩) D7.out
 ·obtain⟨r0,r1,r2,rf⟩:=j9 ((D5.out.blk (k:=w3.heap.size) (by omega) (by omega)).trans R4.out)
  have rf2:=rf 2
  clear rf
  go_upto_region 4 with (go_at_call 15;refine(jT B p n 3 w5 D5.out.1 (by decide) (by decide)).mono ?_;rintro e w6 ⟨z6,rfl,hz6,hd⟩;have D6:=iH (D5.out.trans hd);obtain⟨u0,u1,u2,uf⟩:=j9 ((D6.out.blk (k:=w3.heap.size) (by omega) (by omega)).trans R4.out);have uf2:=uf 2;clear uf hd r0 r1 r2 rf2)
  obtain⟨M,hM⟩:∃M:Int,M=1099511627776 - z6:=⟨_,rfl⟩
  rw [<-hM]
  obtain⟨w7,hw7⟩:∃w7,w7=w6.setCell ⟨w3.heap.size,2,none⟩ (.int .i64 M):=⟨_,rfl⟩
  rw [<-hw7]
  have D7:Hid (DiePost B w p n w7):=iH (by rw [hw7];exact(D4.out.trans D6.out).set hBw (by omega) _)
  have K7:Hid (∀b,b<w3.heap.size->b≠p->w7.heap[b]?=w4.heap[b]?):=iH (by rw [hw7];exact fun b h1 h2=>(iO (by show b≠w3.heap.size;omega)).trans (D6.out.blk (by omega) h2))
  have T7:Hid (w7.heap[w3.heap.size]?=some (.cells #[.slice A1 16 c1,.slice A2 16 c2,.int .i64 M] 29 (0,0))):=iH (by rw [hw7];exact jd (o:=2) ((D6.out.blk (k:=w3.heap.size) (by omega) (by omega)).trans R4.out))
  have M0:0<=M:=by omega
  have M1:M<=1099511627776:=by omega
  clear hw7 hM u0 u1 u2 uf2
  have R7:Hid (w7.heap[w.heap.size]?=some (.cells #[.slice none 0 0,.slice none 0 0,.int .i64 0] 29 (0,0))):=iH ((K7.out _ (by omega) (by omega)).trans ((B4.out.block _ (by omega)).trans R3.out))
  have X1:Hid (BsS w7 (Btw (w.heap.size+1) w3.heap.size) (.slice A1 16 c1) k1):=iH ((V13.out.wide (by omega) iL).fix fun b h1 h2=>(K7.out b (by omega) (by omega)).trans (B4.out.block b h2))
  have X2:Hid (BsS w7 (Btw (w.heap.size+1) w3.heap.size) (.slice A2 16 c2) k2):=iH ((V23.out.wide (by omega) iL).fix fun b h1 h2=>(K7.out b (by omega) (by omega)).trans (B4.out.block b h2))
  have hz7:w7.heap[w.heap.size]?=some (.cells #[.slice none 0 0,.slice none 0 0,.int .i64 0] 29 (0,0)):=R7.out
  obtain⟨q0,q1,q2,_⟩:=j9 T7.out
  obtain⟨z0,z1,z2,zf⟩:=j9 hz7
  have zf0:=zf 0;have zf1:=zf 1;have zf2:=zf 2
  obtain⟨y0,y1,y2,_⟩:=j9 (kh (.slice A1 16 c1) (.slice A2 16 c2) (.int .i64 M) R7.out)
  clear hz7 zf
  go_wp2_with fail
  refine bodyPost_ret (v:=.agg #[.slice A1 16 c1,.slice A2 16 c2,.int .i64 M]) (by simp only [set3]at y0 y1 y2;simp [results,Tryz.results10,go_sem,y0,y1,y2]) rfl ?_
  exact ZX (hi:=w3.heap.size) (P:=fun k1 k2 m=>vS k1 k2 m=true) hBw X1.out X2.out (decide_eq_true ⟨L1.out,L2.out,M0,M1⟩) D7.out
section
variable {B p n g:Nat} {w wx wy:World} {q z1 z2 z3 ex:Int} {A:Option Addr} {C:Nat} {L:List UInt8}
end
theorem j6f{w:World}{g z:Nat}{t:TypeId}(h:w.heap[g]?=some (.cells #[.int .i64 (-1),.int .i64 1099511627776,.int .i64 1099511627777] t (0,0)))(hz:(z:Int)<3):∃q:Int,w.cell? ⟨g,z,none⟩=some (.int .i64 q):=by
 rcases(by omega:z=0\/z=1\/z=2)with rfl|rfl|rfl<;>exact⟨_,cell_of_row _ _ _ _ _ _ h⟩
theorem j6g{w:World}{g z:Nat}{t:TypeId}(h:w.heap[g]?=some (.cells #[.int .i64 2048,.int .i64 4000,.int .i64 4064,.int .i64 4065,.int .i64 4096,.int .i64 4097] t (0,0)))(hz:(z:Int)<6):∃k:Nat,w.cell? ⟨g,z,none⟩=some (.int .i64 k)/\k<=4097:=by
 rcases(by omega:z=0\/z=1\/z=2\/z=3\/z=4\/z=5)with rfl|rfl|rfl|rfl|rfl|rfl
 ·exact⟨2048,cell_of_row _ _ _ _ _ _ h,by decide⟩
 ·exact⟨4000,cell_of_row _ _ _ _ _ _ h,by decide⟩
 ·exact⟨4064,cell_of_row _ _ _ _ _ _ h,by decide⟩
 ·exact⟨4065,cell_of_row _ _ _ _ _ _ h,by decide⟩
 ·exact⟨4096,cell_of_row _ _ _ _ _ _ h,by decide⟩
 ·exact⟨4097,cell_of_row _ _ _ _ _ _ h,by decide⟩
theorem j6h{w:World}{g z s:Nat}{t:TypeId}(h:w.heap[g]?=some (.cells #[.int .i64 36864,.int .i64 25218,.int .i64 27266,.int .i64 s] t (0,0)))(hz:(z:Int)<4)(hs:(s:Int)<65536):∃q:Int,w.cell? ⟨g,z,none⟩=some (.int .i64 q)/\0<=q/\q<=65535:=by
 rcases(by omega:z=0\/z=1\/z=2\/z=3)with rfl|rfl|rfl|rfl
 ·exact⟨_,cell_of_row _ _ _ _ _ _ h,by decide,by decide⟩
 ·exact⟨_,cell_of_row _ _ _ _ _ _ h,by decide,by decide⟩
 ·exact⟨_,cell_of_row _ _ _ _ _ _ h,by decide,by decide⟩
 ·exact⟨_,cell_of_row _ _ _ _ _ _ h,by omega,by omega⟩
def K3(p:Nat)(w:World):Nat->Prop:=fun b=>b<w.heap.size/\b≠p
theorem BsS.rollO{B:Nat}{w w1:World}{p n:Nat}{v:Value}{l:List UInt8}(h:BsS w (K3 p w) v l)(hd:DiePost B w p n w1):BsS w1 (K3 p w1) v l:=h.keep fun b hs hl=>⟨hd.blk hl hs.2,iZ hl hd.2.size,hs.2⟩
theorem BsS.newO{w w1:World}{p:Nat}{v:Value}{l:List UInt8}(h:BsS w1 (New w w1) v l)(hp:p<w.heap.size):BsS w1 (K3 p w1) v l:=h.keep fun b hs hl=>⟨rfl,hl,by have:=hs.1;omega⟩
theorem BsS.setO{w:World}{p g k:Nat}{v:Value}{l:List UInt8}{C:Array Value}{t:TypeId}(h:BsS w (K3 p w) v l)(hr:w.heap[g]?=some (.cells C t (0,0))) (hn:noB C) (u:Value):BsS (w.setCell ⟨g,k,none⟩ u) (K3 p (w.setCell ⟨g,k,none⟩ u)) v l:=
 BsS.keep (h.off hr hn) fun b hs hl=>⟨iO hs.2,by simpa using hl,hs.1.2⟩
def RSt(B p n:Nat)(w:World)(g:Nat)(A:Option Addr)(C:Nat)(L:List UInt8)(st:Int)(wx:World):Prop:=
 DiePost B w p n wx/\wx.heap[g]?=some (.cells #[.slice A L.length C,.int .i64 st] 44 (0,0))/\wx.heap[w.heap.size]?=some (.cells #[.slice none 0 0,.int .i64 0] 44 (0,0))/\BsS wx (Btw (w.heap.size+1) wx.heap.size) (.slice A L.length C) L/\L.length<=4097
section
variable {B p n g:Nat} {w wx wy:World} {st:Int} {A:Option Addr} {C:Nat} {L:List UInt8}
theorem XY{A:Option Addr}{m C:Nat}{st:Int}:noB #[.slice A m C,.int .i64 st]:=by
 intro i x
 rcases i with _|_|i
 ·simp
 ·simp
 ·simp
theorem RSt.die(h:RSt B p n w g A C L st wx):Die B wx p n:=h.1.1
theorem RSt.row(h:RSt B p n w g A C L st wx):wx.heap[g]?=some (.cells #[.slice A L.length C,.int .i64 st] 44 (0,0)):=h.2.1
theorem RSt.lt(h:RSt B p n w g A C L st wx):w.heap.size<wx.heap.size/\g<wx.heap.size:=⟨(iG h.2.2.1),(iG h.2.1)⟩
theorem RSt.roll(h:RSt B p n w g A C L st wx)(hd:DiePost B wx p n wy)(hp:p<w.heap.size)(hg:w.heap.size<g):RSt B p n w g A C L st wy:=
 ⟨h.1.trans hd,(hd.blk h.lt.2 (by omega)).trans h.2.1,(hd.blk h.lt.1 (by omega)).trans h.2.2.1,h.2.2.2.1.roll hd (by omega),h.2.2.2.2⟩
theorem RSt.below(h:RSt B p n w g A C L st wx)(hb:Below wx.heap.size wx wy)(hp:p<w.heap.size)(hg:w.heap.size<g):RSt B p n w g A C L st wy:=h.roll (DiePost.below (DiePost.refl h.die) hb) hp hg
theorem RSt.alloc(h:RSt B p n w g A C L st wx)(hp:p<w.heap.size)(hg:w.heap.size<g)(o:Obj):RSt B p n w g A C L st (wx.alloc o):=h.roll ((DiePost.refl h.die).alloc o) hp hg
theorem RSt.data(h:RSt B p n w g A C L st wx)(hB:B<=w.heap.size)(hg:w.heap.size<g){A2:Option Addr}{C2:Nat}{M:List UInt8}(hv:BsS wx (Btw (w.heap.size+1) wx.heap.size) (.slice A2 M.length C2) M)(hl:M.length<=4097){D:Value}(hD:D=.slice A2 M.length C2):
 RSt B p n w g A2 C2 M st (wx.setCell ⟨g,0,none⟩ D):=by
 subst hD
 refine⟨h.1.set hB (by omega) _,jd (o:=0) h.row,(iO (by show w.heap.size≠g;omega)).trans h.2.2.1,?_,hl⟩
 exact BsS.keep (hv.off h.row XY) fun b hs hl=>⟨iO hs.2,hs.1.1,by simpa using hl⟩
def j2w(B:Nat)(w:World)(p n:Nat)(P:List UInt8->Int->Prop)(e:Ending)(w':World):Prop:=∃v l st,e=.returned v/\Qq w' (New w w') v l st/\P l st/\DiePost B w p n w'
theorem RSt.done(h:RSt B p n w g A C L st wx)(hB:B<=w.heap.size){P:List UInt8->Int->Prop}(hP:P L st):
 j2w B w p n P (.returned (.agg #[.slice A L.length C,.int .i64 st])) ((wx.setCell ⟨w.heap.size,0,none⟩ (.slice A L.length C)).setCell ⟨w.heap.size,1,none⟩ (.int .i64 st)):=
 ⟨_,L,st,rfl,⟨_,rfl,h.2.2.2.1.keep fun b hs hl=>⟨(iO (by show b≠w.heap.size;have:=hs.1;omega)).trans (iO (by show b≠w.heap.size;have:=hs.1;omega)),by have:=hs.1;omega,by simpa using hl⟩⟩,hP,(h.1.set hB iL _).set hB iL _⟩
end
theorem KR(B p n:Nat)(w:World)(h:Die B w p n):Calls Tryz.prog 20 #[.pointer (some ⟨p,0,none⟩)] w (j2w B w p n fun l st=>l.length<=4097/\0<=st/\st<=65535):=by
 obtain⟨w0,hw0⟩:∃w0,w0=w.alloc (.cells #[.slice none 0 0,.int .i64 0] 44):=⟨_,rfl⟩
 have D0:Hid (DiePost B w p n w0):=iH (by rw [hw0];exact(DiePost.refl h).alloc _)
 have R0:Hid (w0.heap[w.heap.size]?=some (.cells #[.slice none 0 0,.int .i64 0] 44 (0,0))):=iH (by rw [hw0];exact iN)
 have z0:w0.heap.size=w.heap.size+1:=by rw [hw0];simp
 have HW0:=iH hw0
 have hBw:=h.le
 have hpB:=h.lt
 have hpw:p<w.heap.size:=by omega
 clear h hw0
 go_enter Tryz.func20,Tryz.ntmps20
 go_upto_region 1 with fail
 rw [<-HW0.out]
 go_upto_region 2 with (first
  |(go_at_call 15;refine(jT B p n 4 _ (D2.out.1.alloc _) (by decide) (by decide)).mono ?_;rintro e w3 ⟨z,rfl,hz,hd⟩;have D3:=iH ((D2.out.alloc _).trans hd);have V3:=iH (V2.out.roll ((DiePost.refl D2.out.1).alloc _ |>.trans hd) (by omega));have R3:=iH ((((DiePost.refl D2.out.1).alloc _ |>.trans hd).blk (k:=w.heap.size) (by omega) (by omega)).trans R2.out);obtain⟨st,hst,st0,st1⟩:=j6h ((hd.blk (k:=w2.heap.size) (by simp) (by have:=z2;have:=z1;omega)).trans (iN)) hz hs;have z3:=hd.2.size;rw [xF]at z3;clear hd)
  |(go_at_call 15;refine(jT B p n 65536 w1 D1.out.1 (by decide) (by decide)).mono ?_;rintro e w2 ⟨s,rfl,hs,hd⟩;have D2:=iH (D1.out.trans hd);have V2:=iH (V1.out.roll hd (by omega));have R2:=iH ((hd.blk (k:=w.heap.size) (by omega) (by omega)).trans R1.out);have z2:=hd.2.size;clear hd)
  |(go_at_call 27;refine(yh B p n 40 w0 D0.out.1 (by decide) (by decide)).mono ?_;rintro e w1 ⟨v1,l,rfl,hv,hl,hd⟩;obtain⟨A1,c1,hp⟩:=Bs.formL hv;subst hp;have HL:Hid (l.length<=40):=iH (by omega);have D1:=iH (D0.out.trans hd);have V1:=iH (hv.btw (lo:=w.heap.size+1) (by omega));have R1:=iH ((hd.blk (k:=w.heap.size) (by omega) (by omega)).trans R0.out);have z1:=hd.2.size;clear hd hv hl))
 obtain⟨w4,hw4⟩:∃w4,w4=w3.alloc (.cells #[.slice A1 l.length c1,.int .i64 st] 44):=⟨_,rfl⟩
 rw [<-hw4]
 have SA:Hid (RSt B p n w w3.heap.size A1 c1 l st w4):=iH (by rw [hw4];exact⟨D3.out.alloc _,iN,(Below.heap_alloc _ _ _ (by omega)).trans R3.out,V3.out.keep fun b hs hl=>⟨Below.heap_alloc _ _ _ hl,hs.1,by have:=hs.2;simp;omega⟩,by have:=HL.out;omega⟩)
 have hgw:w.heap.size<w3.heap.size:=by omega
 clear hw4 hst
 obtain⟨g,hg⟩:∃g,w3.heap.size=g:=⟨_,rfl⟩
 rw [hg]at SA hgw |-
 clear hg hz hs
 go_upto_if 15 with (go_at_call 12;refine(Vh B p n 9 w4 SA.out.die (by decide) (by decide)).mono ?_;rintro e w5 ⟨b5,rfl,hd⟩;have S5:=iH (SA.out.roll hd hpw hgw);clear hd)
 go_cut [] from 14 to 22 (fun wx=>∃A C L,RSt B p n w g A C L st wx)
 case first=>
  cases b5
  ·go_wp2_with fail
   go_meet
   exact⟨_,_,_,S5.out⟩
  ·go_wp2_with(first
    |(at_make;(with_reducible refine Qn rfl (.tmp 20) rfl (k:Int) k rfl rfl (Nat.le_trans hk6 (by decide)) ?_);intro w7 hx hb;have S7:=iH (S6.out.below hb hpw hgw);have X7:=iH (hx.btw (lo:=w.heap.size+1) (by have:=S6.out.lt;omega));clear hx hb;obtain⟨m0,m1,mf⟩:=jb S7.out.row;have mf0:=mf 0;clear mf)
    |(go_at_call 15;refine(jT B p n 6 _ (S5.out.die.alloc _) (by decide) (by decide)).mono ?_;rintro e w6 ⟨z,rfl,hz,hd⟩;have S6:=iH ((S5.out.alloc hpw hgw _).roll hd hpw hgw);obtain⟨k,hc6,hk6⟩:=j6g ((hd.blk (k:=w5.heap.size) (by simp) (by have:=S5.out.lt;omega)).trans (iN)) hz;clear hd))
   go_meet
   exact⟨_,_,List.replicate k 0,S7.out.data (M:=List.replicate k 0) hBw hgw (by simpa using X7.out) (by simp;omega) (by simp)⟩
 case rest=>
  obtain⟨A2,C2,L2,hS⟩:=hcut
  have SC:=iH hS
  clear hS S5 SA b5
  obtain⟨m0,m1,_⟩:=jb SC.out.row
  obtain⟨n0,n1,nf⟩:=jb SC.out.2.2.1
  have nf0:=nf 0;have nf1:=nf 1
  clear nf
  obtain⟨y0,y1,_⟩:=jb (jd (o:=1) (v:=.int .i64 st) (jd (o:=0) (v:=.slice A2 L2.length C2) SC.out.2.2.1))
  go_wp2_with fail
  refine bodyPost_ret (v:=.agg #[.slice A2 L2.length C2,.int .i64 st]) (by simp [results,Tryz.results20,go_sem,y0,y1]) rfl ?_
  exact SC.out.done hBw ⟨SC.out.2.2.2.2,st0,st1⟩
section
variable {B p n:Nat} {w wx wy:World} {q z1 z2 z3 ex:Int} {A:Option Addr} {C:Nat} {L:List UInt8}
end
def TSt(B p n:Nat)(w:World)(A1:Option Addr)(c1:Nat)(k1:List UInt8)(A2:Option Addr)(c2:Nat)(k2:List UInt8)(m:Int)(wx:World):Prop:=
 DiePost B w p n wx/\wx.heap[w.heap.size]?=some (.cells #[.slice A1 k1.length c1,.slice A2 k2.length c2,.int .i64 m] 29 (0,0))/\wx.heap[w.heap.size+1]?=some (.cells #[.slice none 0 0,.slice none 0 0,.int .i64 0] 29 (0,0))/\BsS wx (K3 p wx) (.slice A1 k1.length c1) k1/\BsS wx (K3 p wx) (.slice A2 k2.length c2) k2
section
variable {B p n:Nat} {w wx wy:World} {A1 A2:Option Addr} {c1 c2:Nat} {k1 k2:List UInt8} {m:Int}
theorem zN{A1 A2:Option Addr}{a b c1 c2:Nat}{m:Int}:noB #[.slice A1 a c1,.slice A2 b c2,.int .i64 m]:=j4b _ _ _ _ _ _ _
theorem TSt.lt(h:TSt B p n w A1 c1 k1 A2 c2 k2 m wx):w.heap.size+1<wx.heap.size:=(iG h.2.2.1)
theorem TSt.roll(h:TSt B p n w A1 c1 k1 A2 c2 k2 m wx)(hd:DiePost B wx p n wy)(hp:p<w.heap.size):TSt B p n w A1 c1 k1 A2 c2 k2 m wy:=
 ⟨h.1.trans hd,(hd.blk (by have:=h.lt;omega) (by omega)).trans h.2.1,(hd.blk h.lt (by omega)).trans h.2.2.1,h.2.2.2.1.rollO hd,h.2.2.2.2.rollO hd⟩
theorem TSt.alloc(h:TSt B p n w A1 c1 k1 A2 c2 k2 m wx)(hp:p<w.heap.size)(o:Obj):TSt B p n w A1 c1 k1 A2 c2 k2 m (wx.alloc o):=h.roll ((DiePost.refl h.1.1).alloc o) hp
theorem TSt.set0(h:TSt B p n w A1 c1 k1 A2 c2 k2 m wx)(hB:B<=w.heap.size)(hp:p<w.heap.size){A:Option Addr}{C:Nat}{M:List UInt8}(hv:BsS wx (K3 p wx) (.slice A M.length C) M):TSt B p n w A C M A2 c2 k2 m (wx.setCell ⟨w.heap.size,0,none⟩ (.slice A M.length C)):=
 ⟨h.1.set hB iL _,jd (o:=0) h.2.1,(iO (by show w.heap.size+1≠w.heap.size;omega)).trans h.2.2.1,hv.setO h.2.1 zN _,h.2.2.2.2.setO h.2.1 zN _⟩
theorem TSt.set1(h:TSt B p n w A1 c1 k1 A2 c2 k2 m wx)(hB:B<=w.heap.size)(hp:p<w.heap.size){A:Option Addr}{C:Nat}{M:List UInt8}(hv:BsS wx (K3 p wx) (.slice A M.length C) M):TSt B p n w A1 c1 k1 A C M m (wx.setCell ⟨w.heap.size,1,none⟩ (.slice A M.length C)):=
 ⟨h.1.set hB iL _,jd (o:=1) h.2.1,(iO (by show w.heap.size+1≠w.heap.size;omega)).trans h.2.2.1,h.2.2.2.1.setO h.2.1 zN _,hv.setO h.2.1 zN _⟩
theorem TSt.set2(h:TSt B p n w A1 c1 k1 A2 c2 k2 m wx)(hB:B<=w.heap.size)(hp:p<w.heap.size)(x:Int):TSt B p n w A1 c1 k1 A2 c2 k2 x (wx.setCell ⟨w.heap.size,2,none⟩ (.int .i64 x)):=
 ⟨h.1.set hB iL _,jd (o:=2) h.2.1,(iO (by show w.heap.size+1≠w.heap.size;omega)).trans h.2.2.1,h.2.2.2.1.setO h.2.1 zN _,h.2.2.2.2.setO h.2.1 zN _⟩
def Ue(B:Nat)(w:World)(p n:Nat)(e:Ending)(w':World):Prop:=∃v k1 k2 m,e=.returned v/\qr w' (K3 p w') v k1 k2 m/\DiePost B w p n w'
theorem zW{w:World}{p g:Nat}{v:Value}{l:List UInt8}{x0 x1 x2:Value}{t:TypeId}(h:BsS w (K3 p w) v l)(hr:w.heap[g]?=some (.cells #[x0,x1,x2] t (0,0)))(hn:noB #[x0,x1,x2]) (a b c:Value):BsS (set3 w g a b c) (K3 p (set3 w g a b c)) v l:=
 BsS.keep (h.off hr hn) fun b hs hl=>⟨jD hs.2,by simpa [Go.Proofs.YtadndhgebgjlaaaGreat.set3]using hl,hs.1.2⟩
theorem TSt.done(h:TSt B p n w A1 c1 k1 A2 c2 k2 m wx)(hB:B<=w.heap.size):Ue B w p n (.returned (.agg #[.slice A1 k1.length c1,.slice A2 k2.length c2,.int .i64 m])) (set3 wx (w.heap.size+1) (.slice A1 k1.length c1) (.slice A2 k2.length c2) (.int .i64 m)):=
 ⟨_,k1,k2,m,rfl,⟨_,_,rfl,zW h.2.2.2.1 h.2.2.1 zN _ _ _,zW h.2.2.2.2 h.2.2.1 zN _ _ _⟩,h.1.set3 hB (by omega) _ _ _⟩
end
theorem j20(B p n:Nat)(vs:Value)(k1 k2:List UInt8)(m:Int)(w:World)(h:Die B w p n)(hs:qr w (K3 p w) vs k1 k2 m):Calls Tryz.prog 17 #[.pointer (some ⟨p,0,none⟩),vs] w (Ue B w p n):=by
 obtain⟨a,b,rfl,ha,hb⟩:=hs
 obtain⟨A1,c1,hp⟩:=Bs.formL ha
 subst hp
 obtain⟨A2,c2,hp⟩:=Bs.formL hb
 subst hp
 obtain⟨w0,hw0⟩:∃w0,w0=(w.alloc (.cells #[.slice A1 k1.length c1,.slice A2 k2.length c2,.int .i64 m] 29)).alloc (.cells #[.slice none 0 0,.slice none 0 0,.int .i64 0] 29):=⟨_,rfl⟩
 have hBw:=h.le
 have hpB:=h.lt
 have hpw:p<w.heap.size:=by omega
 have S0:Hid (TSt B p n w A1 c1 k1 A2 c2 k2 m w0):=iH (by
  rw [hw0]
  refine⟨((DiePost.refl h).alloc _).alloc _,(Below.heap_alloc _ _ _ (by simp)).trans (iN),?_,(ha.rollO ((DiePost.refl h).alloc _)).rollO ((DiePost.refl (h.alloc _)).alloc _),(hb.rollO ((DiePost.refl h).alloc _)).rollO ((DiePost.refl (h.alloc _)).alloc _)⟩
  have h:=heap_alloc_new (w.alloc (.cells #[.slice A1 k1.length c1,.slice A2 k2.length c2,.int .i64 m] 29)) (.cells #[.slice none 0 0,.slice none 0 0,.int .i64 0] 29)
  rwa [xF]at h)
 have HW0:=iH hw0
 clear h hw0 ha hb
 go_enter Tryz.func17,Tryz.ntmps17
 go_upto_region 1 with fail
 rw [<-HW0.out]
 go_upto_region 3 with (go_at_call 15;refine(jT B p n 3 w0 S0.out.1.1 (by decide) (by decide)).mono ?_;rintro e w1 ⟨y,rfl,hy,hd⟩;have S1:=iH (S0.out.roll hd hpw);clear hd)
 obtain rfl|rfl|rfl:y=0\/y=1\/y=2:=by omega
 ·go_upto_region 7 with (go_at_call 27;refine(yh B p n 17 w1 S1.out.1.1 (by decide) (by decide)).mono ?_;rintro e w2 ⟨v2,M,rfl,hv,_,hd⟩;obtain⟨A,C,hp⟩:=Bs.formL hv;subst hp;have S2:=iH (S1.out.roll hd hpw);have X2:=iH (hv.newO (p:=p) (by have:=S1.out.lt;omega));clear hd hv;obtain⟨m0,m1,m2,mf⟩:=j9 S2.out.2.1;have mf0:=mf 0;clear mf)
  clear m0 m1 m2 mf0
  obtain⟨w3,hw3⟩:∃w3,w3=w2.setCell ⟨w.heap.size,0,none⟩ (.slice A M.length C):=⟨_,rfl⟩
  have S3:Hid (TSt B p n w A C M A2 c2 k2 m w3):=iH (by rw [hw3];exact S2.out.set0 hBw hpw X2.out)
  rw [<-hw3]
  clear hw3
  obtain⟨m0,m1,m2,_⟩:=j9 S3.out.2.1
  obtain⟨n0,n1,n2,nf⟩:=j9 S3.out.2.2.1
  have nf0:=nf 0;have nf1:=nf 1;have nf2:=nf 2
  clear nf
  obtain⟨y0,y1,y2,_⟩:=j9 (kh (.slice A M.length C) (.slice A2 k2.length c2) (.int .i64 m) S3.out.2.2.1)
  go_wp2_with fail
  refine bodyPost_ret (v:=.agg #[.slice A M.length C,.slice A2 k2.length c2,.int .i64 m]) (by simp only [set3]at y0 y1 y2;simp [results,Tryz.results17,go_sem,y0,y1,y2]) rfl ?_
  exact S3.out.done hBw
 ·go_upto_region 7 with (go_at_call 27;refine(yh B p n 17 w1 S1.out.1.1 (by decide) (by decide)).mono ?_;rintro e w2 ⟨v2,M,rfl,hv,_,hd⟩;obtain⟨A,C,hp⟩:=Bs.formL hv;subst hp;have S2:=iH (S1.out.roll hd hpw);have X2:=iH (hv.newO (p:=p) (by have:=S1.out.lt;omega));clear hd hv;obtain⟨m0,m1,m2,mf⟩:=j9 S2.out.2.1;have mf1:=mf 1;clear mf)
  clear m0 m1 m2 mf1
  obtain⟨w3,hw3⟩:∃w3,w3=w2.setCell ⟨w.heap.size,1,none⟩ (.slice A M.length C):=⟨_,rfl⟩
  have S3:Hid (TSt B p n w A1 c1 k1 A C M m w3):=iH (by rw [hw3];exact S2.out.set1 hBw hpw X2.out)
  rw [<-hw3]
  clear hw3
  obtain⟨m0,m1,m2,_⟩:=j9 S3.out.2.1
  obtain⟨n0,n1,n2,nf⟩:=j9 S3.out.2.2.1
  have nf0:=nf 0;have nf1:=nf 1;have nf2:=nf 2
  clear nf
  obtain⟨y0,y1,y2,_⟩:=j9 (kh (.slice A1 k1.length c1) (.slice A M.length C) (.int .i64 m) S3.out.2.2.1)
  go_wp2_with fail
  refine bodyPost_ret (v:=.agg #[.slice A1 k1.length c1,.slice A M.length C,.int .i64 m]) (by simp only [set3]at y0 y1 y2;simp [results,Tryz.results17,go_sem,y0,y1,y2]) rfl ?_
  exact S3.out.done hBw
 ·go_upto_region 7 with (go_at_call 15;refine(jT B p n 3 _ (S1.out.1.1.alloc _) (by decide) (by decide)).mono ?_;rintro e w2 ⟨z,rfl,hz,hd⟩;have S2:=iH ((S1.out.alloc hpw _).roll hd hpw);obtain⟨x,hc2⟩:=j6f ((hd.blk (k:=w1.heap.size) (by simp) (by have:=S1.out.lt;omega)).trans (iN)) hz;clear hd;obtain⟨m0,m1,m2,mf⟩:=j9 S2.out.2.1;have mf2:=mf 2;clear mf)
  clear m0 m1 m2 mf2 hc2
  obtain⟨w3,hw3⟩:∃w3,w3=w2.setCell ⟨w.heap.size,2,none⟩ (.int .i64 x):=⟨_,rfl⟩
  have S3:Hid (TSt B p n w A1 c1 k1 A2 c2 k2 x w3):=iH (by rw [hw3];exact S2.out.set2 hBw hpw x)
  rw [<-hw3]
  clear hw3
  obtain⟨m0,m1,m2,_⟩:=j9 S3.out.2.1
  obtain⟨n0,n1,n2,nf⟩:=j9 S3.out.2.2.1
  have nf0:=nf 0;have nf1:=nf 1;have nf2:=nf 2
  clear nf
  obtain⟨y0,y1,y2,_⟩:=j9 (kh (.slice A1 k1.length c1) (.slice A2 k2.length c2) (.int .i64 x) S3.out.2.2.1)
  go_wp2_with fail
  refine bodyPost_ret (v:=.agg #[.slice A1 k1.length c1,.slice A2 k2.length c2,.int .i64 x]) (by simp only [set3]at y0 y1 y2;simp [results,Tryz.results17,go_sem,y0,y1,y2]) rfl ?_
  exact S3.out.done hBw
def SesAt(p:Nat)(w:World)(g:Nat)(k1 k2:List UInt8)(n:Int):Prop:=∃A c B d,w.heap[g]?=some (.cells #[.slice A k1.length c,.slice B k2.length d,.int .i64 n] 29 (0,0))/\BsS w (K3 p w) (.slice A k1.length c) k1/\BsS w (K3 p w) (.slice B k2.length d) k2
def RspAt(p:Nat)(w:World)(g:Nat)(d:List UInt8)(st:Int):Prop:=∃A C,w.heap[g]?=some (.cells #[.slice A d.length C,.int .i64 st] 44 (0,0))/\BsS w (K3 p w) (.slice A d.length C) d
theorem j4c{v:Value}{k:Int}(hv:∀x,v≠U8 x):noB #[v,.int .i64 k]:=by
 intro i x
 rcases i with _|_|i
 ·simpa using hv x
 ·simp
 ·simp
section
variable {B p n g g' k:Nat} {w w':World} {k1 k2 d:List UInt8} {m st:Int} {c:Cm}
theorem BsS.offD{v:Value}{l:List UInt8}(h:Bs w w.heap.size v l)(hd:Die B w p n):BsS w (K3 p w) v l:=by
 obtain⟨u,at_,_,hr,hI,_⟩:=hd
 obtain⟨a,cc,rfl,_⟩:=hI
 exact BsS.keep (BsS.off h hr (j4c (by simp))) fun b hs hl=>⟨rfl,hl,hs.2⟩
theorem SesAt.roll(h:SesAt p w g k1 k2 m)(hd:DiePost B w p n w')(hg:g≠p):SesAt p w' g k1 k2 m:=by
 obtain⟨A,c,A',c',hr,h1,h2⟩:=h
 exact⟨A,c,A',c',(hd.blk (iG hr) hg).trans hr,h1.rollO hd,h2.rollO hd⟩
theorem RspAt.roll(h:RspAt p w g d st)(hd:DiePost B w p n w')(hg:g≠p):RspAt p w' g d st:=by
 obtain⟨A,C,hr,h1⟩:=h
 exact⟨A,C,(hd.blk (iG hr) hg).trans hr,h1.rollO hd⟩
theorem SesAt.other(h:SesAt p w g k1 k2 m){C:Array Value}{t:TypeId}(hr':w.heap[g']?=some (.cells C t (0,0))) (hn:noB C) (hne:g≠g') (u:Value):SesAt p (w.setCell ⟨g',k,none⟩ u) g k1 k2 m:=by
 obtain⟨A,c,A',c',hr,h1,h2⟩:=h
 exact⟨A,c,A',c',(iO hne).trans hr,h1.setO hr' hn _,h2.setO hr' hn _⟩
theorem RspAt.other(h:RspAt p w g d st){C:Array Value}{t:TypeId}(hr':w.heap[g']?=some (.cells C t (0,0))) (hn:noB C) (hne:g≠g') (u:Value):RspAt p (w.setCell ⟨g',k,none⟩ u) g d st:=by
 obtain⟨A,C,hr,h1⟩:=h
 exact⟨A,C,(iO hne).trans hr,h1.setO hr' hn _⟩
theorem RspAt.other3(h:RspAt p w g d st)(hc:SesAt p w g' k1 k2 m)(hne:g≠g')(x0 x1 x2:Value):RspAt p (set3 w g' x0 x1 x2) g d st:=by
 obtain⟨A,C,hr,h1⟩:=h
 obtain⟨_,_,_,_,hr',_⟩:=hc
 exact⟨A,C,(jD hne).trans hr,zW h1 hr' zN _ _ _⟩
theorem SesAt.fill{x0 x1 x2:Value}{A A':Option Addr}{c c':Nat}(hr:w.heap[g]?=some (.cells #[x0,x1,x2] 29 (0,0)))(hn:noB #[x0,x1,x2]) (h1:BsS w (K3 p w) (.slice A k1.length c) k1) (h2:BsS w (K3 p w) (.slice A' k2.length c') k2):
 SesAt p (set3 w g (.slice A k1.length c) (.slice A' k2.length c') (.int .i64 m)) g k1 k2 m:=⟨A,c,A',c',kh _ _ _ hr,zW h1 hr hn _ _ _,zW h2 hr hn _ _ _⟩
theorem RspAt.setD(h:RspAt p w g d st){A:Option Addr}{C:Nat}{e:List UInt8}(hv:BsS w (K3 p w) (.slice A e.length C) e):RspAt p (w.setCell ⟨g,0,none⟩ (.slice A e.length C)) g e st:=by
 obtain⟨_,_,hr,_⟩:=h
 exact⟨A,C,jd (o:=0) hr,hv.setO hr XY _⟩
theorem RspAt.setS(h:RspAt p w g d st)(x:Int):RspAt p (w.setCell ⟨g,1,none⟩ (.int .i64 x)) g d x:=by
 obtain⟨A,C,hr,h1⟩:=h
 exact⟨A,C,jd (o:=1) hr,h1.setO hr XY _⟩
theorem SesAt.setN(h:SesAt p w g k1 k2 m)(x:Int):SesAt p (w.setCell ⟨g,2,none⟩ (.int .i64 x)) g k1 k2 x:=by
 obtain⟨A,c,A',c',hr,h1,h2⟩:=h
 exact⟨A,c,A',c',jd (o:=2) hr,h1.setO hr zN _,h2.setO hr zN _⟩
theorem BsS.lo{v:Value}{l:List UInt8}(h:BsS w (K3 p w) v l):BsS w (·<w.heap.size) v l:=h.keep fun _ hs _=>⟨rfl,hs.1⟩
end
theorem JL(va vb:Value)(da db:List UInt8)(sa sb:Int)(S S':Nat->Prop)(w:World)(ha:Qq w S va da sa)(hb:Qq w S' vb db sb):
 Calls Tryz.prog 43 #[va,vb] w fun e w'=>e=.returned (.bool (decide (sa=sb/\da=db)))/\Below w.heap.size w w':=by
 obtain⟨u1,rfl,h1⟩:=ha
 obtain⟨t1,rfl,k1⟩:=hb
 obtain⟨w1,hw1⟩:∃w1,w1=w.alloc (.cells #[u1,.int .i64 sa] 44):=⟨_,rfl⟩
 obtain⟨w2,hw2⟩:∃w2,w2=w1.alloc (.cells #[t1,.int .i64 sb] 44):=⟨_,rfl⟩
 have hz1:w1.heap.size=w.heap.size+1:=by rw [hw1];simp
 have hB1:Below w.heap.size w w1:=by rw [hw1];exact iA
 have hB2:Below w1.heap.size w1 w2:=by rw [hw2];exact iA
 have hh1:w1.heap[w.heap.size]?=some (.cells #[u1,.int .i64 sa] 44 (0,0)):=by rw [hw1];exact iN
 have hh2:w2.heap[w1.heap.size]?=some (.cells #[t1,.int .i64 sb] 44 (0,0)):=by rw [hw2];exact iN
 rw [hz1]at hh2
 have hB:Below w.heap.size w w2:=hB1.trans (hB2.mono hB1.size)
 have hh3:=(hB2.block w.heap.size (by omega)).trans hh1
 have x0:w2.cell? ⟨w.heap.size,0,none⟩=some u1:=by rw [cell_of_row _ _ _ _ _ _ hh3]<;>rfl
 have x1:w2.cell? ⟨w.heap.size,1,none⟩=some (.int .i64 sa):=by rw [cell_of_row _ _ _ _ _ _ hh3]<;>rfl
 have y0:w2.cell? ⟨w.heap.size+1,0,none⟩=some t1:=by rw [cell_of_row _ _ _ _ _ _ hh2]<;>rfl
 have y1:w2.cell? ⟨w.heap.size+1,1,none⟩=some (.int .i64 sb):=by rw [cell_of_row _ _ _ _ _ _ hh2]<;>rfl
 have ol:∀ {S:Nat->Prop} {v:Value} {l:List UInt8},BsS w S v l->BsS w2 (fun _=>True) v l:=fun h=>BsS.keep h fun g _ hl=>⟨hB.block g hl,trivial⟩
 have H1:=iH (ol h1);have G1:=iH (ol k1)
 obtain⟨DA,hDA⟩:∃d,da=d:=⟨_,rfl⟩
 obtain⟨DB,hDB⟩:∃d,db=d:=⟨_,rfl⟩
 rw [hDA]at H1
 rw [hDB]at G1
 obtain⟨o0,ho0⟩:∃o,(sa==sb)=o:=⟨_,rfl⟩
 obtain⟨o9,ho9⟩:∃o,decide (DA=DB)=o:=⟨_,rfl⟩
 have R:Hid (decide (sa=sb/\da=db)=(o0&&o9)):=iH (by
  rw [<-ho0,<-ho9,hDA,hDB,Bool.eq_iff_iff]
  simp)
 have HO9:=iH ho9
 have HB:=iH hB;have HW1:=iH hw1;have HW2:=iH hw2
 clear h1 k1 ol hB1 hB2 hh1 hh2 hh3 hB hw1 hw2 hz1 ho9 hDA hDB
 cases o0 with
 |false=>
  go_enter Tryz.func43,Tryz.ntmps43
  go_upto_region 1 with fail
  rw [<-HW1.out,<-HW2.out]
  go_wp2_with fail
  go_ret
  rw [R.out]
  exact⟨by simp,HB.out⟩
 |true=>
  go_enter Tryz.func43,Tryz.ntmps43
  go_upto_region 1 with fail
  rw [<-HW1.out,<-HW2.out]
  go_wp2_with(go_at_call 73;refine(zU _ _ DA DB _ _ w2 H1.out G1.out).mono ?_;rintro e w3 ⟨rfl,nd,hw3⟩;rw [HO9.out];have HW3:=iH hw3;clear hw3)
  go_ret
  rw [R.out,HW3.out]
  exact⟨by simp,j4 HB.out nd⟩
theorem qY(w:World):((w.alloc (.cells #[.slice none 0 0,.int .i64 0] 44)).alloc (.cells #[.slice none 0 0,.slice none 0 0,.int .i64 0] 29)).heap[w.heap.size]?=some (.cells #[.slice none 0 0,.int .i64 0] 44 (0,0))/\((w.alloc (.cells #[.slice none 0 0,.int .i64 0] 44)).alloc (.cells #[.slice none 0 0,.slice none 0 0,.int .i64 0] 29)).heap[w.heap.size+1]?=some (.cells #[.slice none 0 0,.slice none 0 0,.int .i64 0] 29 (0,0)):=by
 refine⟨by rw [Below.heap_alloc _ _ _ (by simp)];exact iN,?_⟩
 have h:=heap_alloc_new (w.alloc (.cells #[.slice none 0 0,.int .i64 0] 44)) (.cells #[.slice none 0 0,.slice none 0 0,.int .i64 0] 29)
 rwa [show(w.alloc (.cells #[.slice none 0 0,.int .i64 0] 44)).heap.size=w.heap.size+1 by simp]at h
theorem Qa(vs vc vd:Value)(k1 k2:List UInt8)(n:Int)(c:List UInt8)(st:Int)(d:List UInt8)(sd:Int)(w:World)(hs:qr w (·<w.heap.size) vs k1 k2 n)(hc:Qq w (·<w.heap.size) vc c st)(hd:Qq w (·<w.heap.size) vd d sd):
 Calls Tryz.prog 19 #[vs,vc,vd] w fun e w'=>e=.returned (.bool true)/\Below w.heap.size w w':=by
 obtain⟨ua,ub,rfl,ha,hb⟩:=hs
 obtain⟨A1,d1,hp⟩:=Bs.formL ha;subst hp
 obtain⟨A2,d2,hp⟩:=Bs.formL hb;subst hp
 obtain⟨uc,rfl,hcd⟩:=hc
 obtain⟨ud,rfl,hdd⟩:=hd
 obtain⟨cA,cc,hp⟩:=Bs.formL hcd;subst hp
 obtain⟨dA,dc,hp⟩:=Bs.formL hdd;subst hp
 obtain⟨⟨E,C,S1,K1,K2,M⟩,hr1⟩:∃r,kg k1 k2 n c st=r:=⟨_,rfl⟩
 obtain⟨⟨F,D,S2,L1,L2,Q⟩,hr2⟩:∃r,km k1 k2 n d sd=r:=⟨_,rfl⟩
 have HR1:=iH hr1;have HR2:=iH hr2
 obtain⟨ws,hws⟩:∃ws,ws=w.alloc (.cells #[.slice A1 k1.length d1,.slice A2 k2.length d2,.int .i64 n] 29):=⟨_,rfl⟩
 obtain⟨wq,hwq⟩:∃wq,wq=ws.alloc (.cells #[.slice cA c.length cc,.int .i64 st] 44):=⟨_,rfl⟩
 obtain⟨w0,hw0⟩:∃w0,w0=wq.alloc (.cells #[.slice dA d.length dc,.int .i64 sd] 44):=⟨_,rfl⟩
 have zs:ws.heap.size=w.heap.size+1:=by rw [hws];simp
 have zq:wq.heap.size=w.heap.size+1+1:=by rw [hwq];simp [zs]
 have b1:Below w.heap.size w ws:=by rw [hws];exact iA
 have b2:Below ws.heap.size ws wq:=by rw [hwq];exact iA
 have b3:Below wq.heap.size wq w0:=by rw [hw0];exact iA
 have z0:w0.heap.size=w.heap.size+1+1+1:=by rw [hw0];simp [zq]
 have q1:ws.heap[w.heap.size]?=some (.cells #[.slice A1 k1.length d1,.slice A2 k2.length d2,.int .i64 n] 29 (0,0)):=by rw [hws];exact iN
 have q2:wq.heap[w.heap.size+1]?=some (.cells #[.slice cA c.length cc,.int .i64 st] 44 (0,0)):=by rw [hwq,<-zs];exact iN
 have q3:w0.heap[w.heap.size+1+1]?=some (.cells #[.slice dA d.length dc,.int .i64 sd] 44 (0,0)):=by rw [hw0,<-zq];exact iN
 have e2:=(b3.block (w.heap.size+1) (by omega)).trans q2
 have e1:=(b3.block w.heap.size (by omega)).trans ((b2.block w.heap.size (by omega)).trans q1)
 have hB:Below w.heap.size w w0:=b1.trans ((b2.trans (b3.mono b2.size)).mono b1.size)
 have CS:Hid (∀W,Below w0.heap.size w0 W->W.cell? ⟨w.heap.size,0,none⟩=some (.slice A1 k1.length d1)/\W.cell? ⟨w.heap.size,1,none⟩=some (.slice A2 k2.length d2)/\W.cell? ⟨w.heap.size,2,none⟩=some (.int .i64 n)):=iH fun W h=>(by obtain⟨a,b,c,_⟩:=j9 ((h.block w.heap.size (by omega)).trans e1);exact⟨a,b,c⟩)
 have CC:Hid (∀W,Below w0.heap.size w0 W->W.cell? ⟨w.heap.size+1,0,none⟩=some (.slice cA c.length cc)/\W.cell? ⟨w.heap.size+1,1,none⟩=some (.int .i64 st)):=iH fun W h=>(by obtain⟨a,b,_⟩:=jb ((h.block (w.heap.size+1) (by omega)).trans e2);exact⟨a,b⟩)
 have CD:Hid (∀W,Below w0.heap.size w0 W->W.cell? ⟨w.heap.size+1+1,0,none⟩=some (.slice dA d.length dc)/\W.cell? ⟨w.heap.size+1+1,1,none⟩=some (.int .i64 sd)):=iH fun W h=>(by obtain⟨a,b,_⟩:=jb ((h.block (w.heap.size+1+1) (by omega)).trans q3);exact⟨a,b⟩)
 have HB0:=iH hB;have HWS:=iH hws;have HWQ:=iH hwq;have HW0:=iH hw0
 have HK1:=iH (Bs.lift ha hB);have HK2:=iH (Bs.lift hb hB);have HCD:=iH (Bs.lift hcd hB);have HDD:=iH (Bs.lift hdd hB)
 have HSV:Hid (∀W,Below w0.heap.size w0 W->qr W (·<W.heap.size) (.agg #[.slice A1 k1.length d1,.slice A2 k2.length d2,.int .i64 n]) k1 k2 n):=iH fun W h=>⟨_,_,rfl,HK1.out.lift h,HK2.out.lift h⟩
 have HCV:Hid (∀W,Below w0.heap.size w0 W->Qq W (·<W.heap.size) (.agg #[.slice cA c.length cc,.int .i64 st]) c st):=iH fun W h=>⟨_,rfl,HCD.out.lift h⟩
 have HDV:Hid (∀W,Below w0.heap.size w0 W->Qq W (·<W.heap.size) (.agg #[.slice dA d.length dc,.int .i64 sd]) d sd):=iH fun W h=>⟨_,rfl,HDD.out.lift h⟩
 clear ha hb hcd hdd hr1 hr2 hws hwq hw0 zs zq z0 b1 b2 b3 q1 q2 q3 e1 e2 hB
 go_enter Tryz.func19,Tryz.ntmps19
 go_upto_region 1 with fail
 rw [<-HWS.out,<-HWQ.out,<-HW0.out]
 obtain⟨s0,s1,s2⟩:=CS.out w0 iB
 obtain⟨c0,c1⟩:=CC.out w0 iB
 go_upto_region 2 with (go_at_call 40;refine(YC _ _ k1 k2 n c st w0 (HSV.out w0 iB) (HCV.out w0 iB)).mono ?_;rw [HR1.out];rintro e w1 ⟨v,s,rfl,⟨d1,rfl,hd⟩,⟨x1,y1,rfl,hx,hy⟩,hb⟩;obtain⟨dA1,dc1,hp⟩:=Bs.formL hd;subst hp;obtain⟨xA1,xc1,hp⟩:=Bs.formL hx;subst hp;obtain⟨yA1,yc1,hp⟩:=Bs.formL hy;subst hp;have HV1:Hid (VW w1 [(.slice dA1 C.length dc1,C),(.slice xA1 K1.length xc1,K1),(.slice yA1 K2.length yc1,K2)]):=iH (((VW.nil.add (S:=(·<w1.heap.size)) (fun _ h=>h) hy).add (S:=(·<w1.heap.size)) (fun _ h=>h) hx).add (S:=(·<w1.heap.size)) (fun _ h=>h) hd);have HB1:=iH hb;obtain⟨hz,hs0⟩:=qY w1;obtain⟨n0,n1,nf⟩:=jb hz;have nf0:=nf 0;have nf1:=nf 1;obtain⟨m0,m1,m2,mf⟩:=j9 hs0;have mf0:=mf 0;have mf1:=mf 1;have mf2:=mf 2;clear nf mf hz hs0 hd hx hy hb)
 clear s0 s1 s2 c0 c1 n0 n1 nf0 nf1 m0 m1 m2 mf0 mf1 mf2
 obtain⟨u1,hu1⟩:∃u,u=(w1.alloc (.cells #[.slice dA1 C.length dc1,.int .i64 S1] 44)).alloc (.cells #[.slice xA1 K1.length xc1,.slice yA1 K2.length yc1,.int .i64 M] 29):=⟨_,rfl⟩
 rw [<-hu1]
 have hwu:Below w1.heap.size w1 u1:=by rw [hu1];exact(iA).alloc (by simp) _
 have hcr:u1.heap[w1.heap.size]?=some (.cells #[.slice dA1 C.length dc1,.int .i64 S1] 44 (0,0)):=by rw [hu1,Below.heap_alloc _ _ _ (by simp)];exact iN
 have hsr:u1.heap[w1.heap.size+1]?=some (.cells #[.slice xA1 K1.length xc1,.slice yA1 K2.length yc1,.int .i64 M] 29 (0,0)):=by
  rw [hu1]
  have h:=heap_alloc_new (w1.alloc (.cells #[.slice dA1 C.length dc1,.int .i64 S1] 44)) (.cells #[.slice xA1 K1.length xc1,.slice yA1 K2.length yc1,.int .i64 M] 29)
  rwa [show(w1.alloc (.cells #[.slice dA1 C.length dc1,.int .i64 S1] 44)).heap.size=w1.heap.size+1 by simp]at h
 have RC1:Hid (∀W,Below u1.heap.size u1 W->W.heap[w1.heap.size]?=some (.cells #[.slice dA1 C.length dc1,.int .i64 S1] 44 (0,0))):=iH fun W h=>(h.block _ (iG hcr)).trans hcr
 have RS1:Hid (∀W,Below u1.heap.size u1 W->W.heap[w1.heap.size+1]?=some (.cells #[.slice xA1 K1.length xc1,.slice yA1 K2.length yc1,.int .i64 M] 29 (0,0))):=iH fun W h=>(h.block _ (iG hsr)).trans hsr
 have VU1:=iH (HV1.out.on hwu)
 have HX1:=iH (HB1.out.trans (hwu.mono HB1.out.size))
 have HU1:Hid (Below w0.heap.size w0 u1):=iH HX1.out
 clear hwu hcr hsr hu1
 obtain⟨s0,s1,s2⟩:=CS.out u1 HU1.out
 obtain⟨c0,c1⟩:=CC.out u1 HU1.out
 go_upto_region 3 with (go_at_call 21;refine(Kv _ _ k1 k2 n c st u1 (HSV.out u1 HU1.out) (HCV.out u1 HU1.out)).mono ?_;rw [HR1.out];rintro e w2 ⟨v,s,rfl,⟨d2,rfl,hd⟩,⟨x2,y2,rfl,hx,hy⟩,hb⟩;obtain⟨dA2,dc2,hp⟩:=Bs.formL hd;subst hp;obtain⟨xA2,xc2,hp⟩:=Bs.formL hx;subst hp;obtain⟨yA2,yc2,hp⟩:=Bs.formL hy;subst hp;have HV2:Hid (VW w2 [(.slice dA2 C.length dc2,C),(.slice xA2 K1.length xc2,K1),(.slice yA2 K2.length yc2,K2)]):=iH (((VW.nil.add (S:=(·<w2.heap.size)) (fun _ h=>h) hy).add (S:=(·<w2.heap.size)) (fun _ h=>h) hx).add (S:=(·<w2.heap.size)) (fun _ h=>h) hd);have HB2:=iH hb;obtain⟨hz,hs0⟩:=qY w2;obtain⟨n0,n1,nf⟩:=jb hz;have nf0:=nf 0;have nf1:=nf 1;obtain⟨m0,m1,m2,mf⟩:=j9 hs0;have mf0:=mf 0;have mf1:=mf 1;have mf2:=mf 2;clear nf mf hz hs0 hd hx hy hb)
 clear s0 s1 s2 c0 c1 n0 n1 nf0 nf1 m0 m1 m2 mf0 mf1 mf2
 obtain⟨u2,hu2⟩:∃u,u=(w2.alloc (.cells #[.slice dA2 C.length dc2,.int .i64 S1] 44)).alloc (.cells #[.slice xA2 K1.length xc2,.slice yA2 K2.length yc2,.int .i64 M] 29):=⟨_,rfl⟩
 rw [<-hu2]
 have hwu:Below w2.heap.size w2 u2:=by rw [hu2];exact(iA).alloc (by simp) _
 have hcr:u2.heap[w2.heap.size]?=some (.cells #[.slice dA2 C.length dc2,.int .i64 S1] 44 (0,0)):=by rw [hu2,Below.heap_alloc _ _ _ (by simp)];exact iN
 have hsr:u2.heap[w2.heap.size+1]?=some (.cells #[.slice xA2 K1.length xc2,.slice yA2 K2.length yc2,.int .i64 M] 29 (0,0)):=by
  rw [hu2]
  have h:=heap_alloc_new (w2.alloc (.cells #[.slice dA2 C.length dc2,.int .i64 S1] 44)) (.cells #[.slice xA2 K1.length xc2,.slice yA2 K2.length yc2,.int .i64 M] 29)
  rwa [show(w2.alloc (.cells #[.slice dA2 C.length dc2,.int .i64 S1] 44)).heap.size=w2.heap.size+1 by simp]at h
 have RC2:Hid (∀W,Below u2.heap.size u2 W->W.heap[w2.heap.size]?=some (.cells #[.slice dA2 C.length dc2,.int .i64 S1] 44 (0,0))):=iH fun W h=>(h.block _ (iG hcr)).trans hcr
 have RS2:Hid (∀W,Below u2.heap.size u2 W->W.heap[w2.heap.size+1]?=some (.cells #[.slice xA2 K1.length xc2,.slice yA2 K2.length yc2,.int .i64 M] 29 (0,0))):=iH fun W h=>(h.block _ (iG hsr)).trans hsr
 have VU2:=iH (HV2.out.on hwu)
 have HX2:=iH (HB2.out.trans (hwu.mono HB2.out.size))
 have HU2:Hid (Below w0.heap.size w0 u2):=iH (HU1.out.trans (HX2.out.mono HU1.out.size))
 clear hwu hcr hsr hu2
 obtain⟨s0,s1,s2⟩:=CS.out u2 HU2.out
 obtain⟨c0,c1⟩:=CD.out u2 HU2.out
 go_upto_region 4 with (go_at_call 41;refine(V8 _ _ k1 k2 n d sd u2 (HSV.out u2 HU2.out) (HDV.out u2 HU2.out)).mono ?_;rw [HR2.out];rintro e w3 ⟨v,s,rfl,⟨d3,rfl,hd⟩,⟨x3,y3,rfl,hx,hy⟩,hb⟩;obtain⟨dA3,dc3,hp⟩:=Bs.formL hd;subst hp;obtain⟨xA3,xc3,hp⟩:=Bs.formL hx;subst hp;obtain⟨yA3,yc3,hp⟩:=Bs.formL hy;subst hp;have HV3:Hid (VW w3 [(.slice dA3 D.length dc3,D),(.slice xA3 L1.length xc3,L1),(.slice yA3 L2.length yc3,L2)]):=iH (((VW.nil.add (S:=(·<w3.heap.size)) (fun _ h=>h) hy).add (S:=(·<w3.heap.size)) (fun _ h=>h) hx).add (S:=(·<w3.heap.size)) (fun _ h=>h) hd);have HB3:=iH hb;obtain⟨hz,hs0⟩:=qY w3;obtain⟨n0,n1,nf⟩:=jb hz;have nf0:=nf 0;have nf1:=nf 1;obtain⟨m0,m1,m2,mf⟩:=j9 hs0;have mf0:=mf 0;have mf1:=mf 1;have mf2:=mf 2;clear nf mf hz hs0 hd hx hy hb)
 clear s0 s1 s2 c0 c1 n0 n1 nf0 nf1 m0 m1 m2 mf0 mf1 mf2
 obtain⟨u3,hu3⟩:∃u,u=(w3.alloc (.cells #[.slice dA3 D.length dc3,.int .i64 S2] 44)).alloc (.cells #[.slice xA3 L1.length xc3,.slice yA3 L2.length yc3,.int .i64 Q] 29):=⟨_,rfl⟩
 rw [<-hu3]
 have hwu:Below w3.heap.size w3 u3:=by rw [hu3];exact(iA).alloc (by simp) _
 have hcr:u3.heap[w3.heap.size]?=some (.cells #[.slice dA3 D.length dc3,.int .i64 S2] 44 (0,0)):=by rw [hu3,Below.heap_alloc _ _ _ (by simp)];exact iN
 have hsr:u3.heap[w3.heap.size+1]?=some (.cells #[.slice xA3 L1.length xc3,.slice yA3 L2.length yc3,.int .i64 Q] 29 (0,0)):=by
  rw [hu3]
  have h:=heap_alloc_new (w3.alloc (.cells #[.slice dA3 D.length dc3,.int .i64 S2] 44)) (.cells #[.slice xA3 L1.length xc3,.slice yA3 L2.length yc3,.int .i64 Q] 29)
  rwa [show(w3.alloc (.cells #[.slice dA3 D.length dc3,.int .i64 S2] 44)).heap.size=w3.heap.size+1 by simp]at h
 have RC3:Hid (∀W,Below u3.heap.size u3 W->W.heap[w3.heap.size]?=some (.cells #[.slice dA3 D.length dc3,.int .i64 S2] 44 (0,0))):=iH fun W h=>(h.block _ (iG hcr)).trans hcr
 have RS3:Hid (∀W,Below u3.heap.size u3 W->W.heap[w3.heap.size+1]?=some (.cells #[.slice xA3 L1.length xc3,.slice yA3 L2.length yc3,.int .i64 Q] 29 (0,0))):=iH fun W h=>(h.block _ (iG hsr)).trans hsr
 have VU3:=iH (HV3.out.on hwu)
 have HX3:=iH (HB3.out.trans (hwu.mono HB3.out.size))
 have HU3:Hid (Below w0.heap.size w0 u3):=iH (HU2.out.trans (HX3.out.mono HU2.out.size))
 clear hwu hcr hsr hu3
 obtain⟨s0,s1,s2⟩:=CS.out u3 HU3.out
 obtain⟨c0,c1⟩:=CD.out u3 HU3.out
 go_upto_region 5 with (go_at_call 42;refine(VD _ _ k1 k2 n d sd u3 (HSV.out u3 HU3.out) (HDV.out u3 HU3.out)).mono ?_;rw [HR2.out];rintro e w4 ⟨v,s,rfl,⟨d4,rfl,hd⟩,⟨x4,y4,rfl,hx,hy⟩,hb⟩;obtain⟨dA4,dc4,hp⟩:=Bs.formL hd;subst hp;obtain⟨xA4,xc4,hp⟩:=Bs.formL hx;subst hp;obtain⟨yA4,yc4,hp⟩:=Bs.formL hy;subst hp;have HV4:Hid (VW w4 [(.slice dA4 D.length dc4,D),(.slice xA4 L1.length xc4,L1),(.slice yA4 L2.length yc4,L2)]):=iH (((VW.nil.add (S:=(·<w4.heap.size)) (fun _ h=>h) hy).add (S:=(·<w4.heap.size)) (fun _ h=>h) hx).add (S:=(·<w4.heap.size)) (fun _ h=>h) hd);have HB4:=iH hb;obtain⟨hz,hs0⟩:=qY w4;obtain⟨n0,n1,nf⟩:=jb hz;have nf0:=nf 0;have nf1:=nf 1;obtain⟨m0,m1,m2,mf⟩:=j9 hs0;have mf0:=mf 0;have mf1:=mf 1;have mf2:=mf 2;clear nf mf hz hs0 hd hx hy hb)
 clear s0 s1 s2 c0 c1 n0 n1 nf0 nf1 m0 m1 m2 mf0 mf1 mf2
 obtain⟨u4,hu4⟩:∃u,u=(w4.alloc (.cells #[.slice dA4 D.length dc4,.int .i64 S2] 44)).alloc (.cells #[.slice xA4 L1.length xc4,.slice yA4 L2.length yc4,.int .i64 Q] 29):=⟨_,rfl⟩
 rw [<-hu4]
 have hwu:Below w4.heap.size w4 u4:=by rw [hu4];exact(iA).alloc (by simp) _
 have hcr:u4.heap[w4.heap.size]?=some (.cells #[.slice dA4 D.length dc4,.int .i64 S2] 44 (0,0)):=by rw [hu4,Below.heap_alloc _ _ _ (by simp)];exact iN
 have hsr:u4.heap[w4.heap.size+1]?=some (.cells #[.slice xA4 L1.length xc4,.slice yA4 L2.length yc4,.int .i64 Q] 29 (0,0)):=by
  rw [hu4]
  have h:=heap_alloc_new (w4.alloc (.cells #[.slice dA4 D.length dc4,.int .i64 S2] 44)) (.cells #[.slice xA4 L1.length xc4,.slice yA4 L2.length yc4,.int .i64 Q] 29)
  rwa [show(w4.alloc (.cells #[.slice dA4 D.length dc4,.int .i64 S2] 44)).heap.size=w4.heap.size+1 by simp]at h
 have RC4:Hid (∀W,Below u4.heap.size u4 W->W.heap[w4.heap.size]?=some (.cells #[.slice dA4 D.length dc4,.int .i64 S2] 44 (0,0))):=iH fun W h=>(h.block _ (iG hcr)).trans hcr
 have RS4:Hid (∀W,Below u4.heap.size u4 W->W.heap[w4.heap.size+1]?=some (.cells #[.slice xA4 L1.length xc4,.slice yA4 L2.length yc4,.int .i64 Q] 29 (0,0))):=iH fun W h=>(h.block _ (iG hsr)).trans hsr
 have VU4:=iH (HV4.out.on hwu)
 have HX4:=iH (HB4.out.trans (hwu.mono HB4.out.size))
 have HU4:Hid (Below w0.heap.size w0 u4):=iH (HU3.out.trans (HX4.out.mono HU3.out.size))
 clear hwu hcr hsr hu4
 have H44:Hid (Below u4.heap.size u4 u4):=iH iB
 have H34:=iH HX4.out
 have H24:=iH (HX3.out.trans (HX4.out.mono HX3.out.size))
 have H14:=iH (HX2.out.trans (H24.out.mono HX2.out.size))
 obtain⟨a10,a11,_⟩:=jb (RC1.out u4 H14.out);obtain⟨b10,b11,b12,_⟩:=j9 (RS1.out u4 H14.out)
 obtain⟨a20,a21,_⟩:=jb (RC2.out u4 H24.out);obtain⟨b20,b21,b22,_⟩:=j9 (RS2.out u4 H24.out)
 obtain⟨a30,a31,_⟩:=jb (RC3.out u4 H34.out);obtain⟨b30,b31,b32,_⟩:=j9 (RS3.out u4 H34.out)
 obtain⟨a40,a41,_⟩:=jb (RC4.out u4 H44.out);obtain⟨b40,b41,b42,_⟩:=j9 (RS4.out u4 H44.out)
 have tE:(E==E)=true:=by simp
 have tF:(F==F)=true:=by simp
 go_wp2_with(first
  |(go_at_call 39;have MMz4:=z3B;refine(Xo _ _ L1 L2 L1 L2 Q Q (·<z3.heap.size) (·<z3.heap.size) z3 ⟨_,_,rfl,((VU3.out.on (H34.out.trans (z3B.out.mono H34.out.size))).at 1 rfl),((VU3.out.on (H34.out.trans (z3B.out.mono H34.out.size))).at 2 rfl)⟩ ⟨_,_,rfl,((VU4.out.on (H44.out.trans (z3B.out.mono H44.out.size))).at 1 rfl),((VU4.out.on (H44.out.trans (z3B.out.mono H44.out.size))).at 2 rfl)⟩).mono ?_;rintro e z4 ⟨rfl,hb⟩;rw [decide_eq_true (show Q=Q/\L1=L1/\L2=L2 from⟨rfl,rfl,rfl⟩)];have z4B:Hid (Below u4.heap.size u4 z4):=iH (z3B.out.trans (hb.mono z3B.out.size));clear a10 a11 b10 b11 b12 a20 a21 b20 b21 b22 a30 a31 b30 b31 b32 a40 a41 b40 b41 b42;obtain⟨a10,a11,_⟩:=jb (RC1.out z4 (H14.out.trans (z4B.out.mono H14.out.size)));obtain⟨b10,b11,b12,_⟩:=j9 (RS1.out z4 (H14.out.trans (z4B.out.mono H14.out.size)));obtain⟨a20,a21,_⟩:=jb (RC2.out z4 (H24.out.trans (z4B.out.mono H24.out.size)));obtain⟨b20,b21,b22,_⟩:=j9 (RS2.out z4 (H24.out.trans (z4B.out.mono H24.out.size)));obtain⟨a30,a31,_⟩:=jb (RC3.out z4 (H34.out.trans (z4B.out.mono H34.out.size)));obtain⟨b30,b31,b32,_⟩:=j9 (RS3.out z4 (H34.out.trans (z4B.out.mono H34.out.size)));obtain⟨a40,a41,_⟩:=jb (RC4.out z4 (H44.out.trans (z4B.out.mono H44.out.size)));obtain⟨b40,b41,b42,_⟩:=j9 (RS4.out z4 (H44.out.trans (z4B.out.mono H44.out.size)));clear hb)
  |(go_at_call 43;have MMz3:=z2B;refine(JL _ _ D D S2 S2 (·<z2.heap.size) (·<z2.heap.size) z2 ⟨_,rfl,((VU3.out.on (H34.out.trans (z2B.out.mono H34.out.size))).at 0 rfl)⟩ ⟨_,rfl,((VU4.out.on (H44.out.trans (z2B.out.mono H44.out.size))).at 0 rfl)⟩).mono ?_;rintro e z3 ⟨rfl,hb⟩;rw [decide_eq_true (show S2=S2/\D=D from⟨rfl,rfl⟩)];have z3B:Hid (Below u4.heap.size u4 z3):=iH (z2B.out.trans (hb.mono z2B.out.size));clear a10 a11 b10 b11 b12 a20 a21 b20 b21 b22 a30 a31 b30 b31 b32 a40 a41 b40 b41 b42;obtain⟨a10,a11,_⟩:=jb (RC1.out z3 (H14.out.trans (z3B.out.mono H14.out.size)));obtain⟨b10,b11,b12,_⟩:=j9 (RS1.out z3 (H14.out.trans (z3B.out.mono H14.out.size)));obtain⟨a20,a21,_⟩:=jb (RC2.out z3 (H24.out.trans (z3B.out.mono H24.out.size)));obtain⟨b20,b21,b22,_⟩:=j9 (RS2.out z3 (H24.out.trans (z3B.out.mono H24.out.size)));obtain⟨a30,a31,_⟩:=jb (RC3.out z3 (H34.out.trans (z3B.out.mono H34.out.size)));obtain⟨b30,b31,b32,_⟩:=j9 (RS3.out z3 (H34.out.trans (z3B.out.mono H34.out.size)));obtain⟨a40,a41,_⟩:=jb (RC4.out z3 (H44.out.trans (z3B.out.mono H44.out.size)));obtain⟨b40,b41,b42,_⟩:=j9 (RS4.out z3 (H44.out.trans (z3B.out.mono H44.out.size)));clear hb)
  |(go_at_call 39;have MMz2:=z1B;refine(Xo _ _ K1 K2 K1 K2 M M (·<z1.heap.size) (·<z1.heap.size) z1 ⟨_,_,rfl,((VU1.out.on (H14.out.trans (z1B.out.mono H14.out.size))).at 1 rfl),((VU1.out.on (H14.out.trans (z1B.out.mono H14.out.size))).at 2 rfl)⟩ ⟨_,_,rfl,((VU2.out.on (H24.out.trans (z1B.out.mono H24.out.size))).at 1 rfl),((VU2.out.on (H24.out.trans (z1B.out.mono H24.out.size))).at 2 rfl)⟩).mono ?_;rintro e z2 ⟨rfl,hb⟩;rw [decide_eq_true (show M=M/\K1=K1/\K2=K2 from⟨rfl,rfl,rfl⟩)];have z2B:Hid (Below u4.heap.size u4 z2):=iH (z1B.out.trans (hb.mono z1B.out.size));clear a10 a11 b10 b11 b12 a20 a21 b20 b21 b22 a30 a31 b30 b31 b32 a40 a41 b40 b41 b42;obtain⟨a10,a11,_⟩:=jb (RC1.out z2 (H14.out.trans (z2B.out.mono H14.out.size)));obtain⟨b10,b11,b12,_⟩:=j9 (RS1.out z2 (H14.out.trans (z2B.out.mono H14.out.size)));obtain⟨a20,a21,_⟩:=jb (RC2.out z2 (H24.out.trans (z2B.out.mono H24.out.size)));obtain⟨b20,b21,b22,_⟩:=j9 (RS2.out z2 (H24.out.trans (z2B.out.mono H24.out.size)));obtain⟨a30,a31,_⟩:=jb (RC3.out z2 (H34.out.trans (z2B.out.mono H34.out.size)));obtain⟨b30,b31,b32,_⟩:=j9 (RS3.out z2 (H34.out.trans (z2B.out.mono H34.out.size)));obtain⟨a40,a41,_⟩:=jb (RC4.out z2 (H44.out.trans (z2B.out.mono H44.out.size)));obtain⟨b40,b41,b42,_⟩:=j9 (RS4.out z2 (H44.out.trans (z2B.out.mono H44.out.size)));clear hb)
  |(go_at_call 43;have MMz1:=H44;refine(JL _ _ C C S1 S1 (·<u4.heap.size) (·<u4.heap.size) u4 ⟨_,rfl,((VU1.out.on H14.out).at 0 rfl)⟩ ⟨_,rfl,((VU2.out.on H24.out).at 0 rfl)⟩).mono ?_;rintro e z1 ⟨rfl,hb⟩;rw [decide_eq_true (show S1=S1/\C=C from⟨rfl,rfl⟩)];have z1B:Hid (Below u4.heap.size u4 z1):=iH hb;clear a10 a11 b10 b11 b12 a20 a21 b20 b21 b22 a30 a31 b30 b31 b32 a40 a41 b40 b41 b42;obtain⟨a10,a11,_⟩:=jb (RC1.out z1 (H14.out.trans (z1B.out.mono H14.out.size)));obtain⟨b10,b11,b12,_⟩:=j9 (RS1.out z1 (H14.out.trans (z1B.out.mono H14.out.size)));obtain⟨a20,a21,_⟩:=jb (RC2.out z1 (H24.out.trans (z1B.out.mono H24.out.size)));obtain⟨b20,b21,b22,_⟩:=j9 (RS2.out z1 (H24.out.trans (z1B.out.mono H24.out.size)));obtain⟨a30,a31,_⟩:=jb (RC3.out z1 (H34.out.trans (z1B.out.mono H34.out.size)));obtain⟨b30,b31,b32,_⟩:=j9 (RS3.out z1 (H34.out.trans (z1B.out.mono H34.out.size)));obtain⟨a40,a41,_⟩:=jb (RC4.out z1 (H44.out.trans (z1B.out.mono H44.out.size)));obtain⟨b40,b41,b42,_⟩:=j9 (RS4.out z1 (H44.out.trans (z1B.out.mono H44.out.size)));clear hb))
 go_ret
 exact⟨rfl,HB0.out.trans ((HU4.out.trans (z4B.out.mono HU4.out.size)).mono HB0.out.size)⟩
theorem j4z:(q6 151 (exV 8)).enc.length=3:=by decide
theorem XC:∃b:List UInt8,b.length=13/\zn Z16 Z16 0 ⟨0,176,0,0,[],8⟩=(0,⟨12,176,0,0,b,65536⟩,Z16,Z16,1)/\kf Z16 Z16 0 ⟨12,176,0,0,b,65536⟩=(0,⟨0,176,0,0,[],8⟩,Z16,Z16,1):=by
 have h1:vS Z16 Z16 0=true:=decide_eq_true ⟨qs,qs,by decide,by decide⟩
 have h2:vC ⟨0,176,0,0,[],8⟩=true:=by decide
 have h3:QK 0=true:=by decide
 obtain⟨b,hb,hl⟩:=j2h (k2:=Z16) (N:=yM (0+1)) (head:=yn (0+12) 176 0 0) (V:=Xz Z16 (yM (0+1)) []) (M:=exV 8) (tg:=151) qs (by decide) (by decide) (by decide) (by simp [Xz]) (by decide)
 rw [<-Kh,<-Zz]at hb
 refine⟨b,?_,?_,?_⟩
 ·rw [hl,j4z]<;>rfl
 ·unfold zn
  rw [iF (by rw [h1];simp),iF (by rw [h2];simp),iF (by rw [show(⟨0,176,0,0,[],8⟩:Cm).cl=0 from rfl,h3];simp),iF (by decide)]
  simp only
  rw [hb]
  rfl
 ·have:=Zk (c:=⟨0,176,0,0,[],8⟩) h1 h2 h3 (by decide) (by simp) hb
  exact this
def Qt(w:World)(q:Nat):Prop:=w.heap[q]?=some (.cells #[.int .i64 0,.int .i64 0,.int .i64 0,.int .i64 0,.slice none 0 0,.int .i64 0] 32 (0,0))
def Qs(w:World)(q:Nat):Prop:=w.heap[q]?=some (.cells #[.slice none 0 0,.slice none 0 0,.int .i64 0] 29 (0,0))
theorem j0o{w:World}{q:Nat}(h:Qt w q)(g:Qs w q):False:=by
 unfold Qt at h
 unfold Qs at g
 rw [h]at g
 simp at g
structure RZ2 (w0 w1 w2:World):Prop where
 size:w1.heap.size<=w2.heap.size
 at_:∀k,k<w1.heap.size->w2.heap[k]?=w1.heap[k]? \/Qt w1 k\/Qs w1 k
theorem RZ2.of{w0 w1 w2:World}(h:Below w1.heap.size w1 w2):RZ2 w0 w1 w2:=⟨h.size,fun k hk=>.inl (h.block k hk)⟩
theorem RZ2.refl{w0 w1:World}:RZ2 w0 w1 w1:=⟨Nat.le_refl _,fun _ _=>.inl rfl⟩
theorem RZ2.set3{w0 w1:World}{q:Nat}(hrow:Qs w1 q)(a b c:Value):RZ2 w0 w1 (set3 w1 q a b c):=⟨by rw [xU];exact Nat.le_refl _,fun k _=>by
 by_cases h:k=q
 ·subst h;exact .inr (.inr hrow)
 ·exact .inl (jD h)⟩
theorem RZ2.set6{w0 w1:World}{q:Nat}(hrow:Qt w1 q)(a b c d e f:Value):RZ2 w0 w1 (set6 w1 q a b c d e f):=⟨by rw [JP];exact Nat.le_refl _,fun k _=>by
 by_cases h:k=q
 ·subst h;exact .inr (.inl hrow)
 ·exact .inl (q9 h)⟩
theorem RZ2.row3{w0 w1 w2:World}(h:RZ2 w0 w1 w2){q:Nat}{a b c:Value}(hr:w1.heap[q]?=some (.cells #[a,b,c] 29 (0,0)))(hn:c≠ .int .i64 0):w2.heap[q]?=some (.cells #[a,b,c] 29 (0,0)):=by
 rcases h.at_ q (iG hr)with e|e|e
 ·rw [e,hr]
 ·unfold Qt at e
  rw [hr]at e
  simp at e
 ·unfold Qs at e
  rw [hr]at e
  simp at e
  exact absurd e.2.2 hn
theorem RZ2.row6{w0 w1 w2:World}(h:RZ2 w0 w1 w2){q:Nat}{a b c d e f:Value}(hr:w1.heap[q]?=some (.cells #[a,b,c,d,e,f] 32 (0,0)))(hn:b≠ .int .i64 0):w2.heap[q]?=some (.cells #[a,b,c,d,e,f] 32 (0,0)):=by
 rcases h.at_ q (iG hr)with e|e|e
 ·rw [e,hr]
 ·unfold Qt at e
  rw [hr]at e
  simp at e
  exact absurd e.2.1 hn
 ·unfold Qs at e
  rw [hr]at e
  simp at e
theorem BsS.rz2{w0 w1 w2:World}{v:Value}{l:List UInt8}(h:Bs w1 w1.heap.size v l)(hr:RZ2 w0 w1 w2):Bs w2 w2.heap.size v l:=by
 obtain⟨a,c,hv,h1,h2,h3,h4⟩:=h
 refine⟨a,c,hv,h1,h2,h3,fun h0=> ?_⟩
 obtain⟨b,off,e,hS,hc⟩:=h4 h0
 refine⟨b,off,e,iZ hS hr.size,fun j hj=> ?_⟩
 rcases hr.at_ b hS with hb|hb|hb
 ·rw [World.cell?_of_block (a:=⟨b,off+j,none⟩) hb];exact hc j hj
 ·exfalso
  have hc0:=hc j hj
  rw [cell_of_row _ _ _ _ _ _ hb]at hc0
  exact j68 (A:=none) (n:=0) (k:=0) (off+j) _ hc0
 ·exfalso
  have hc0:=hc j hj
  rw [cell_of_row _ _ _ _ _ _ hb]at hc0
  exact j4b none none 0 0 0 0 0 (off+j) _ hc0
def JZ2(w0:World)(a s c t:Nat)(L:Nat->Bool)(v:Nat->Value)(w1:World):Prop:=
 Below w0.heap.size w0 w1/\(L s=false->L a=true->∃q,v a=.pointer (some ⟨q,0,none⟩)/\w0.heap.size<=q/\q<w1.heap.size/\Qt w1 q)/\(L t=false->L c=true->∃q,v c=.pointer (some ⟨q,0,none⟩)/\w0.heap.size<=q/\q<w1.heap.size/\Qs w1 q)
section
variable {w0 w1 w2:World} {a s c t:Nat} {L:Nat->Bool} {v:Nat->Value} {y:Value}
theorem JZ2.start:JZ2 w0 a s c t (fun _=>false) v w0.drew:=by
 refine⟨iB.drew,fun _ h=> ?_,fun _ h=> ?_⟩<;>exact absurd h (by simp)
theorem JZ2.step(h:JZ2 w0 a s c t L v w1)(hb:Below w1.heap.size w1 w2)(i:Nat)(ha:i≠a)(hs:i≠s)(hc:i≠c)(ht:i≠t):JZ2 w0 a s c t (jm L i) (jK v i y) w2:=by
 refine⟨h.1.trans (hb.mono h.1.size),fun h1 h2=> ?_,fun h1 h2=> ?_⟩
 ·simp only [jm]at h1 h2
  rw [iF (Ne.symm hs)]at h1
  rw [iF (Ne.symm ha)]at h2
  obtain⟨q,e,hq,hl,hz⟩:=h.2.1 h1 h2
  exact⟨q,by simp only [jK];rw [iF (Ne.symm ha)];exact e,hq,iZ hl hb.size,(hb.block q hl).trans hz⟩
 ·simp only [jm]at h1 h2
  rw [iF (Ne.symm ht)]at h1
  rw [iF (Ne.symm hc)]at h2
  obtain⟨q,e,hq,hl,hz⟩:=h.2.2 h1 h2
  exact⟨q,by simp only [jK];rw [iF (Ne.symm hc)];exact e,hq,iZ hl hb.size,(hb.block q hl).trans hz⟩
theorem JZ2.alloc6(h:JZ2 w0 a s c t L v w1)(_:a≠s)(hc:c≠a)(ht:t≠a):JZ2 w0 a s c t (jm L a) (jK v a (.pointer (some ⟨w1.heap.size,0,none⟩))) (w1.alloc (.cells #[.int .i64 0,.int .i64 0,.int .i64 0,.int .i64 0,.slice none 0 0,.int .i64 0] 32)):=by
 refine⟨h.1.alloc h.1.size _,fun _ _=>⟨w1.heap.size,by simp [jK],h.1.size,by simp,iN⟩,fun h1 h2=> ?_⟩
 simp only [jm]at h1 h2
 rw [iF ht]at h1
 rw [iF hc]at h2
 obtain⟨q,e,hq,hl,hz⟩:=h.2.2 h1 h2
 exact⟨q,by simp only [jK];rw [iF hc];exact e,hq,iZ hl (by simp),(Below.heap_alloc _ _ _ hl).trans hz⟩
theorem JZ2.alloc3(h:JZ2 w0 a s c t L v w1)(_:c≠t)(ha:a≠c)(hs:s≠c):JZ2 w0 a s c t (jm L c) (jK v c (.pointer (some ⟨w1.heap.size,0,none⟩))) (w1.alloc (.cells #[.slice none 0 0,.slice none 0 0,.int .i64 0] 29)):=by
 refine⟨h.1.alloc h.1.size _,fun h1 h2=> ?_,fun _ _=>⟨w1.heap.size,by simp [jK],h.1.size,by simp,iN⟩⟩
 simp only [jm]at h1 h2
 rw [iF hs]at h1
 rw [iF ha]at h2
 obtain⟨q,e,hq,hl,hz⟩:=h.2.1 h1 h2
 exact⟨q,by simp only [jK];rw [iF ha];exact e,hq,iZ hl (by simp),(Below.heap_alloc _ _ _ hl).trans hz⟩
theorem JZ2.store6(h:JZ2 w0 a s c t L v w1){q:Nat}(hq:w0.heap.size<=q)(hrow:Qt w1 q)(_:a≠s)(hc:c≠s)(ht:t≠s){b1 b2 b3 b4 b5 b6:Value}:JZ2 w0 a s c t (jm L s) (jK v s y) (set6 w1 q b1 b2 b3 b4 b5 b6):=by
 refine⟨Kx h.1 hq,fun h1=>by simp [jm]at h1,fun h1 h2=> ?_⟩
 simp only [jm]at h1 h2
 rw [iF ht]at h1
 rw [iF hc]at h2
 obtain⟨p,e,hp,hl,hz⟩:=h.2.2 h1 h2
 have hne:p≠q:=fun e=>by subst e;exact j0o hrow hz
 exact⟨p,by simp only [jK];rw [iF hc];exact e,hp,by rw [JP];exact hl,(q9 hne).trans hz⟩
theorem JZ2.store3(h:JZ2 w0 a s c t L v w1){q:Nat}(hq:w0.heap.size<=q)(hrow:Qs w1 q)(_:c≠t)(ha:a≠t)(hs:s≠t){b1 b2 b3:Value}:JZ2 w0 a s c t (jm L t) (jK v t y) (set3 w1 q b1 b2 b3):=by
 refine⟨kR h.1 hq,fun h1 h2=> ?_,fun h1=>by simp [jm]at h1⟩
 simp only [jm]at h1 h2
 rw [iF hs]at h1
 rw [iF ha]at h2
 obtain⟨p,e,hp,hl,hz⟩:=h.2.1 h1 h2
 have hne:p≠q:=fun e=>by subst e;exact j0o hz hrow
 exact⟨p,by simp only [jK];rw [iF ha];exact e,hp,by rw [xU];exact hl,(jD hne).trans hz⟩
end
theorem ZG(w:World):Calls Tryz.prog 24 #[] w fun e w'=>∃X1 x1 X2 x2,e=.returned (.agg #[.slice X1 16 x1,.slice X2 16 x2,.int .i64 0])/\Bs w' w'.heap.size (.slice X1 16 x1) Z16/\Bs w' w'.heap.size (.slice X2 16 x2) Z16/\Below w.heap.size w w':=by
 have hmx:Tryz.prog.follows .mixedOrders=true:=by kernel_rfl
 obtain⟨w0,hw0⟩:∃w0,w0=w.alloc (.cells #[.slice none 0 0,.slice none 0 0,.int .i64 0] 29):=⟨_,rfl⟩
 have hB0:Below w.heap.size w w0:=by rw [hw0];exact iA
 have hh0:w0.heap[w.heap.size]?=some (.cells #[.slice none 0 0,.slice none 0 0,.int .i64 0] 29 (0,0)):=by rw [hw0];exact iN
 have HB:=iH hB0;have HR:=iH hh0;have HLT:=iH (iG hh0);have HW0:=iH hw0
 clear hB0 hh0 hw0
 go_enter Tryz.func24,Tryz.ntmps24
 go_upto_region 1 with fail
 rw [<-HW0.out]
 refine je 3 [some 1,some 2,some 3] [[],[],[0,1]]
  (fun _ _ w1=>Below w0.heap.size w0 w1) (fun w1 w2=>Below w1.heap.size w1 w2)
  [fun v w1=>∃q,v 0=.slice (some ⟨q,0,none⟩) 16 16/\Bs w1 w1.heap.size (.slice (some ⟨q,0,none⟩) 16 16) Z16,
   fun v w1=>∃q,v 1=.slice (some ⟨q,0,none⟩) 16 16/\Bs w1 w1.heap.size (.slice (some ⟨q,0,none⟩) 16 16) Z16,
   fun v w1=>∃q0 q1,v 2=.agg #[.slice (some ⟨q0,0,none⟩) 16 16,.slice (some ⟨q1,0,none⟩) 16 16,.int .i64 0]/\Bs w1 w1.heap.size (.slice (some ⟨q0,0,none⟩) 16 16) Z16/\Bs w1 w1.heap.size (.slice (some ⟨q1,0,none⟩) 16 16) Z16]
  (by kernel_rfl) (by kernel_rfl) (fun _=>iB.drew) ?st ?steps ?tail
 case st=>
  exact(.cons (fun _ _ _ _ _ hr ⟨q,e,h⟩=>⟨q,e,h.lift hr⟩) (.cons (fun _ _ _ _ _ hr ⟨q,e,h⟩=>⟨q,e,h.lift hr⟩) (.cons (fun _ _ _ _ _ hr ⟨q0,q1,e,h,g⟩=>⟨q0,q1,e,h.lift hr,g.lift hr⟩) .nil)))
 case steps=>
  simp only [iI,iK]
  refine(.cons ?_ (.cons ?_ (.cons ?_ .nil)))
  all_goals(intro L v w1 hJ hL hA hF K hK;simp only [jf,Act.put,iM,Nat.reduceAdd,iS,iC,iD]at hK |-)
  ·have Hm:=Km
   go_simp
   exact hK _ _ (hJ.trans ((jU w1).mono hJ.size)) (jU w1) ⟨_,rfl,BsS.keep (JX w1) fun g hs _=>⟨rfl,hs.2⟩⟩
  ·have Hm:=Km
   go_simp
   exact hK _ _ (hJ.trans ((jU w1).mono hJ.size)) (jU w1) ⟨_,rfl,BsS.keep (JX w1) fun g hs _=>⟨rfl,hs.2⟩⟩
  ·obtain⟨q0,e0,h0⟩:∃q,v 0=.slice (some ⟨q,0,none⟩) 16 16/\Bs w1 w1.heap.size (.slice (some ⟨q,0,none⟩) 16 16) Z16:=hF 0 (hA 0 (by simp))
   obtain⟨q1,e1,h1⟩:∃q,v 1=.slice (some ⟨q,0,none⟩) 16 16/\Bs w1 w1.heap.size (.slice (some ⟨q,0,none⟩) 16 16) Z16:=hF 1 (hA 1 (by simp))
   simp only [e0,e1]at hK
   go_simp
   exact hK _ _ hJ iB ⟨_,_,rfl,h0,h1⟩
 case tail=>
  intro v w1 hJ hF
  obtain⟨q0,q1,e2,h0,h1⟩:∃q0 q1,v 2=.agg #[.slice (some ⟨q0,0,none⟩) 16 16,.slice (some ⟨q1,0,none⟩) 16 16,.int .i64 0]/\Bs w1 w1.heap.size (.slice (some ⟨q0,0,none⟩) 16 16) Z16/\Bs w1 w1.heap.size (.slice (some ⟨q1,0,none⟩) 16 16) Z16:=hF 2 (by simp)
  simp only [iE,iJ,jf,Act.put,iM,Nat.reduceAdd,iS,iC,iD]
  simp only [e2]
  have hr:=(hJ.block w.heap.size HLT.out).trans HR.out
  obtain⟨z0,z1,z2,zf⟩:=j9 hr
  have zf0:=zf 0;have zf1:=zf 1;have zf2:=zf 2
  obtain⟨y0,y1,y2,_⟩:=j9 (kh (.slice (some ⟨q0,0,none⟩) 16 16) (.slice (some ⟨q1,0,none⟩) 16 16) (.int .i64 0) hr)
  have HRR:=iH hr;have H0:=iH h0;have H1:=iH h1;have HJ:=iH hJ
  clear zf hr h0 h1 hJ hF e2
  go_wp2_with fail
  refine bodyPost_ret (v:=.agg #[.slice (some ⟨q0,0,none⟩) 16 16,.slice (some ⟨q1,0,none⟩) 16 16,.int .i64 0]) (by simp only [set3]at y0 y1 y2;simp [results,Tryz.results24,go_sem,y0,y1,y2]) rfl ?_
  refine⟨_,_,_,_,rfl,?_,?_,kR (HB.out.trans (HJ.out.mono HB.out.size)) iL⟩
  ·exact BsS.keep (BsS.off H0.out HRR.out (j4b none none 0 0 0 0 0)) fun g hg _=>⟨jD hg.2,by simpa [set3]using hg.1⟩
  ·exact BsS.keep (BsS.off H1.out HRR.out (j4b none none 0 0 0 0 0)) fun g hg _=>⟨jD hg.2,by simpa [set3]using hg.1⟩
theorem Ke(w:World):Calls Tryz.prog 8 #[] w fun e w'=>e=.returned (.bool true)/\Below w.heap.size w w':=by
 have hmx:Tryz.prog.follows .mixedOrders=true:=by kernel_rfl
 obtain⟨b,hb,hwr,hun⟩:=XC
 have LD2:Hid (b.length=13):=iH hb
 have LD3:Hid (([]:List UInt8).length=0):=iH rfl
 have HWR:Hid (∀(x y:Value) (w:World),Bs w w.heap.size x Z16->Bs w w.heap.size y Z16->Calls Tryz.prog 23 #[.agg #[x,y,.int .i64 0],.agg #[.int .i64 0,.int .i64 176,.int .i64 0,.int .i64 0,.slice none 0 0,.int .i64 8]] w (KG (0,⟨12,176,0,0,b,65536⟩,Z16,Z16,1) w)):=iH (fun x y w h1 h2=>by rw [<-hwr];exact Va _ _ Z16 Z16 0 ⟨0,176,0,0,[],8⟩ w ⟨x,y,rfl,h1,h2⟩ ⟨_,rfl,BsS.nil0 _ _⟩)
 have HUN:Hid (∀(x y d:Value) (w:World),Bs w w.heap.size x Z16->Bs w w.heap.size y Z16->Bs w w.heap.size d b->Calls Tryz.prog 25 #[.agg #[x,y,.int .i64 0],.agg #[.int .i64 12,.int .i64 176,.int .i64 0,.int .i64 0,d,.int .i64 65536]] w (KG (0,⟨0,176,0,0,[],8⟩,Z16,Z16,1) w)):=iH (fun x y d w h1 h2 h3=>by rw [<-hun];exact XX _ _ Z16 Z16 0 ⟨12,176,0,0,b,65536⟩ w ⟨x,y,rfl,h1,h2⟩ ⟨d,rfl,h3⟩)
 clear hb hwr hun
 obtain⟨n0,n1,n2,n3,n4,n5,nf⟩:=jp (yl w)
 have nf0:=nf 0;have nf1:=nf 1;have nf2:=nf 2;have nf3:=nf 3;have nf4:=nf 4;have nf5:=nf 5
 clear nf
 go_enter Tryz.func8,Tryz.ntmps8
 go_upto_region 2 with fail
 obtain⟨w1r,hw1⟩:∃w1r,w1r=w.alloc (.cells #[.int .i64 0,.int .i64 176,.int .i64 0,.int .i64 0,.slice none 0 0,.int .i64 8] 32):=⟨_,rfl⟩
 rw [<-hw1]
 have HBW1:Hid (Below w.heap.size w w1r):=iH (by rw [hw1];exact iA)
 have HR1:Hid (w1r.heap[w.heap.size]?=some (.cells #[.int .i64 0,.int .i64 176,.int .i64 0,.int .i64 0,.slice none 0 0,.int .i64 8] 32 (0,0))):=iH (by rw [hw1];exact iN)
 clear hw1 n0 n1 n2 n3 n4 n5 nf0 nf1 nf2 nf3 nf4 nf5
 refine je 12 [some 10,some 11,some 12,some 9,some 13,some 14,some 15,some 2,some 3,none,none,some 4] [[],[],[0,1],[0,1,2],[0,1,2,3],[0,1,2,3],[0,1,2,3],[],[],[0,1,2,3,4,7,8],[0,1,2,3,4,5,7,8,9],[0,1,2,3,4,5,6,7,8,9,10]]
  (JZ2 w1r 7 9 8 10) (RZ2 w1r)
  [fun v w1=>∃X1 x1 X2 x2,v 0=.agg #[.slice X1 16 x1,.slice X2 16 x2,.int .i64 0]/\Bs w1 w1.heap.size (.slice X1 16 x1) Z16/\Bs w1 w1.heap.size (.slice X2 16 x2) Z16,
   fun v _=>v 1=.agg #[.int .i64 0,.int .i64 176,.int .i64 0,.int .i64 0,.slice none 0 0,.int .i64 8],
   fun v w1=>∃dA dc X1 x1 X2 x2,v 2=.tuple #[.agg #[.int .i64 12,.int .i64 176,.int .i64 0,.int .i64 0,.slice dA 13 dc,.int .i64 65536],.agg #[.slice X1 16 x1,.slice X2 16 x2,.int .i64 1],.int .i64 0]/\Bs w1 w1.heap.size (.slice dA 13 dc) b/\Bs w1 w1.heap.size (.slice X1 16 x1) Z16/\Bs w1 w1.heap.size (.slice X2 16 x2) Z16,
   fun v w1=>∃dA dc X1 x1 X2 x2,v 3=.tuple #[.agg #[.int .i64 12,.int .i64 176,.int .i64 0,.int .i64 0,.slice dA 13 dc,.int .i64 65536],.agg #[.slice X1 16 x1,.slice X2 16 x2,.int .i64 1],.int .i64 0]/\Bs w1 w1.heap.size (.slice dA 13 dc) b/\Bs w1 w1.heap.size (.slice X1 16 x1) Z16/\Bs w1 w1.heap.size (.slice X2 16 x2) Z16,
   fun v w1=>∃dA dc,v 4=.agg #[.int .i64 12,.int .i64 176,.int .i64 0,.int .i64 0,.slice dA 13 dc,.int .i64 65536]/\Bs w1 w1.heap.size (.slice dA 13 dc) b,
   fun v w1=>∃X1 x1 X2 x2,v 5=.agg #[.slice X1 16 x1,.slice X2 16 x2,.int .i64 1]/\Bs w1 w1.heap.size (.slice X1 16 x1) Z16/\Bs w1 w1.heap.size (.slice X2 16 x2) Z16,
   fun v _=>v 6=.int .i64 0,
   fun v w1=>True,
   fun v w1=>True,
   fun v w1=>∃q dA dc,v 7=.pointer (some ⟨q,0,none⟩)/\w1r.heap.size<=q/\w1.heap[q]?=some (.cells #[.int .i64 12,.int .i64 176,.int .i64 0,.int .i64 0,.slice dA 13 dc,.int .i64 65536] 32 (0,0))/\Bs w1 w1.heap.size (.slice dA 13 dc) b,
   fun v w1=>∃q X1 x1 X2 x2,v 8=.pointer (some ⟨q,0,none⟩)/\w1r.heap.size<=q/\w1.heap[q]?=some (.cells #[.slice X1 16 x1,.slice X2 16 x2,.int .i64 1] 29 (0,0))/\Bs w1 w1.heap.size (.slice X1 16 x1) Z16/\Bs w1 w1.heap.size (.slice X2 16 x2) Z16,
   fun v _=>v 11=.int .i64 0]
  (by kernel_rfl) (by kernel_rfl) (fun _=>JZ2.start) ?st2 ?steps2 ?tail2
 case st2=>
  exact(.cons (fun _ _ _ _ _ hr ⟨X1,x1,X2,x2,e,h1,h2⟩=>⟨X1,x1,X2,x2,e,h1.rz2 hr,h2.rz2 hr⟩) (.cons (fun _ _ _ _ _ _ h=>h) (.cons (fun _ _ _ _ _ hr ⟨dA,dc,X1,x1,X2,x2,e,h0,h1,h2⟩=>⟨dA,dc,X1,x1,X2,x2,e,h0.rz2 hr,h1.rz2 hr,h2.rz2 hr⟩) (.cons (fun _ _ _ _ _ hr ⟨dA,dc,X1,x1,X2,x2,e,h0,h1,h2⟩=>⟨dA,dc,X1,x1,X2,x2,e,h0.rz2 hr,h1.rz2 hr,h2.rz2 hr⟩) (.cons (fun _ _ _ _ _ hr ⟨dA,dc,e,h⟩=>⟨dA,dc,e,h.rz2 hr⟩) (.cons (fun _ _ _ _ _ hr ⟨X1,x1,X2,x2,e,h1,h2⟩=>⟨X1,x1,X2,x2,e,h1.rz2 hr,h2.rz2 hr⟩) (.cons (fun _ _ _ _ _ _ h=>h) (.cons (fun _ _ _ _ _ _ h=>h) (.cons (fun _ _ _ _ _ _ h=>h) (.cons (fun _ _ _ _ _ hr ⟨q,dA,dc,e,hq,hw,h⟩=>⟨q,dA,dc,e,hq,hr.row6 hw (by simp),h.rz2 hr⟩) (.cons (fun _ _ _ _ _ hr ⟨q,X1,x1,X2,x2,e,hq,hw,h1,h2⟩=>⟨q,X1,x1,X2,x2,e,hq,hr.row3 hw (by simp),h1.rz2 hr,h2.rz2 hr⟩) (.cons (fun _ _ _ _ _ _ h=>h) .nil))))))))))))
 case steps2=>
  simp only [iI,iK]
  refine(.cons ?_ (.cons ?_ (.cons ?_ (.cons ?_ (.cons ?_ (.cons ?_ (.cons ?_ (.cons ?_ (.cons ?_ (.cons ?_ (.cons ?_ (.cons ?_ .nil))))))))))))
  all_goals(intro L v w1 hJ hL hA hF K hK;simp only [jf,Act.put,iM,Nat.reduceAdd,iS,iC,iD]at hK |-)
  ·go_simp
   refine(ZG w1).mono ?_
   rintro e w5 ⟨X1,x1,X2,x2,rfl,h1,h2,hb⟩
   exact hK _ _ (hJ.step hb 0 (by decide) (by decide) (by decide) (by decide)) (RZ2.of hb) ⟨_,_,_,_,rfl,h1,h2⟩
  ·obtain⟨c0,c1,c2,c3,c4,c5,_⟩:=jp ((hJ.1.block w.heap.size (iG HR1.out)).trans HR1.out)
   go_simp
   refine hK _ _ (hJ.step iB 1 (by decide) (by decide) (by decide) (by decide)) RZ2.refl ?_
   first|exact rfl|exact j5 _
  ·have e1:v 1=.agg #[.int .i64 0,.int .i64 176,.int .i64 0,.int .i64 0,.slice none 0 0,.int .i64 8]:=hF 1 (hA 1 (by simp))
   simp only [e1]at hK
   obtain⟨X1,x1,X2,x2,e0,h1,h2⟩:∃X1 x1 X2 x2,v 0=.agg #[.slice X1 16 x1,.slice X2 16 x2,.int .i64 0]/\Bs w1 w1.heap.size (.slice X1 16 x1) Z16/\Bs w1 w1.heap.size (.slice X2 16 x2) Z16:=hF 0 (hA 0 (by simp))
   simp only [e0]at hK
   go_simp
   refine(HWR.out (.slice X1 16 x1) (.slice X2 16 x2) w1 h1 h2).mono ?_
   rintro e w5 ⟨cv,sv,rfl,⟨dd,rfl,hd⟩,⟨y1,y2,rfl,g1,g2⟩,hb⟩
   obtain⟨dA,dc,hp⟩:∃A c,dd=.slice A 13 c:=(by obtain⟨a,c,e,_⟩:=hd;exact⟨a,c,by rw [e,LD2.out]⟩)
   obtain⟨Y1,c1,hp1⟩:∃A c,y1=.slice A 16 c:=(by obtain⟨a,c,e,_⟩:=g1;exact⟨a,c,by rw [e,qs]⟩)
   obtain⟨Y2,c2,hp2⟩:∃A c,y2=.slice A 16 c:=(by obtain⟨a,c,e,_⟩:=g2;exact⟨a,c,by rw [e,qs]⟩)
   subst hp;subst hp1;subst hp2
   exact hK _ _ (hJ.step hb 2 (by decide) (by decide) (by decide) (by decide)) (RZ2.of hb) ⟨_,_,_,_,_,_,rfl,hd,g1,g2⟩
  ·obtain⟨dA,dc,X1,x1,X2,x2,e2,h0,h1,h2⟩:∃dA dc X1 x1 X2 x2,v 2=.tuple #[.agg #[.int .i64 12,.int .i64 176,.int .i64 0,.int .i64 0,.slice dA 13 dc,.int .i64 65536],.agg #[.slice X1 16 x1,.slice X2 16 x2,.int .i64 1],.int .i64 0]/\Bs w1 w1.heap.size (.slice dA 13 dc) b/\Bs w1 w1.heap.size (.slice X1 16 x1) Z16/\Bs w1 w1.heap.size (.slice X2 16 x2) Z16:=hF 2 (hA 2 (by simp))
   simp only [e2]at hK
   go_simp
   exact hK _ _ (hJ.step iB 3 (by decide) (by decide) (by decide) (by decide)) RZ2.refl ⟨_,_,_,_,_,_,rfl,h0,h1,h2⟩
  ·obtain⟨dA,dc,X1,x1,X2,x2,e3,h0,h1,h2⟩:∃dA dc X1 x1 X2 x2,v 3=.tuple #[.agg #[.int .i64 12,.int .i64 176,.int .i64 0,.int .i64 0,.slice dA 13 dc,.int .i64 65536],.agg #[.slice X1 16 x1,.slice X2 16 x2,.int .i64 1],.int .i64 0]/\Bs w1 w1.heap.size (.slice dA 13 dc) b/\Bs w1 w1.heap.size (.slice X1 16 x1) Z16/\Bs w1 w1.heap.size (.slice X2 16 x2) Z16:=hF 3 (hA 3 (by simp))
   simp only [e3]at hK
   go_simp
   exact hK _ _ (hJ.step iB 4 (by decide) (by decide) (by decide) (by decide)) RZ2.refl ⟨_,_,rfl,h0⟩
  ·obtain⟨dA,dc,X1,x1,X2,x2,e3,h0,h1,h2⟩:∃dA dc X1 x1 X2 x2,v 3=.tuple #[.agg #[.int .i64 12,.int .i64 176,.int .i64 0,.int .i64 0,.slice dA 13 dc,.int .i64 65536],.agg #[.slice X1 16 x1,.slice X2 16 x2,.int .i64 1],.int .i64 0]/\Bs w1 w1.heap.size (.slice dA 13 dc) b/\Bs w1 w1.heap.size (.slice X1 16 x1) Z16/\Bs w1 w1.heap.size (.slice X2 16 x2) Z16:=hF 3 (hA 3 (by simp))
   simp only [e3]at hK
   go_simp
   exact hK _ _ (hJ.step iB 5 (by decide) (by decide) (by decide) (by decide)) RZ2.refl ⟨_,_,_,_,rfl,h1,h2⟩
  ·obtain⟨dA,dc,X1,x1,X2,x2,e3,h0,h1,h2⟩:∃dA dc X1 x1 X2 x2,v 3=.tuple #[.agg #[.int .i64 12,.int .i64 176,.int .i64 0,.int .i64 0,.slice dA 13 dc,.int .i64 65536],.agg #[.slice X1 16 x1,.slice X2 16 x2,.int .i64 1],.int .i64 0]/\Bs w1 w1.heap.size (.slice dA 13 dc) b/\Bs w1 w1.heap.size (.slice X1 16 x1) Z16/\Bs w1 w1.heap.size (.slice X2 16 x2) Z16:=hF 3 (hA 3 (by simp))
   simp only [e3]at hK
   go_simp
   exact hK _ _ (hJ.step iB 6 (by decide) (by decide) (by decide) (by decide)) RZ2.refl rfl
  ·go_simp
   exact hK _ _ (hJ.alloc6 (by decide) (by decide) (by decide)) (RZ2.of (iA)) trivial
  ·go_simp
   exact hK _ _ (hJ.alloc3 (by decide) (by decide) (by decide)) (RZ2.of (iA)) trivial
  ·obtain⟨q,e7,hq0,hq1,hrow⟩:=hJ.2.1 hL (hA 7 (by simp))
   obtain⟨dA,dc,e4,hd⟩:∃dA dc,v 4=.agg #[.int .i64 12,.int .i64 176,.int .i64 0,.int .i64 0,.slice dA 13 dc,.int .i64 65536]/\Bs w1 w1.heap.size (.slice dA 13 dc) b:=hF 4 (hA 4 (by simp))
   simp only [e7,e4]at hK |-
   obtain⟨z0,z1,z2,z3,z4,z5,zf⟩:=jp hrow
   have zf0:=zf 0;have zf1:=zf 1;have zf2:=zf 2;have zf3:=zf 3;have zf4:=zf 4;have zf5:=zf 5
   clear zf
   go_simp
   exact hK undef _ (hJ.store6 hq0 hrow (by decide) (by decide) (by decide)) (RZ2.set6 hrow _ _ _ _ _ _) ⟨q,dA,dc,e7,hq0,Qg _ _ _ _ _ _ hrow,hd.rz2 (RZ2.set6 (w0:=w1r) hrow _ _ _ _ _ _)⟩
  ·obtain⟨q,e8,hq0,hq1,hrow⟩:=hJ.2.2 hL (hA 8 (by simp))
   obtain⟨X1,x1,X2,x2,e5,h1,h2⟩:∃X1 x1 X2 x2,v 5=.agg #[.slice X1 16 x1,.slice X2 16 x2,.int .i64 1]/\Bs w1 w1.heap.size (.slice X1 16 x1) Z16/\Bs w1 w1.heap.size (.slice X2 16 x2) Z16:=hF 5 (hA 5 (by simp))
   simp only [e8,e5]at hK |-
   obtain⟨z0,z1,z2,zf⟩:=j9 hrow
   have zf0:=zf 0;have zf1:=zf 1;have zf2:=zf 2
   clear zf
   go_simp
   exact hK undef _ (hJ.store3 hq0 hrow (by decide) (by decide) (by decide)) (RZ2.set3 hrow _ _ _) ⟨q,X1,x1,X2,x2,e8,hq0,kh _ _ _ hrow,h1.rz2 (RZ2.set3 (w0:=w1r) hrow _ _ _),h2.rz2 (RZ2.set3 (w0:=w1r) hrow _ _ _)⟩
  ·have e6:v 6=.int .i64 0:=hF 6 (hA 6 (by simp))
   simp only [e6]at hK
   go_simp
   refine hK _ _ (hJ.step iB 11 (by decide) (by decide) (by decide) (by decide)) RZ2.refl ?_
   first|exact rfl|exact j5 _
 case tail2=>
  intro v w1 hJ hF
  have e1:v 1=.agg #[.int .i64 0,.int .i64 176,.int .i64 0,.int .i64 0,.slice none 0 0,.int .i64 8]:=hF 1 (by simp)
  have e6:v 6=.int .i64 0:=hF 6 (by simp)
  have e11:v 11=.int .i64 0:=hF 11 (by simp)
  obtain⟨qc2,dA2,dc2,e7,hqc,hrc,hdc⟩:∃q dA dc,v 7=.pointer (some ⟨q,0,none⟩)/\w1r.heap.size<=q/\w1.heap[q]?=some (.cells #[.int .i64 12,.int .i64 176,.int .i64 0,.int .i64 0,.slice dA 13 dc,.int .i64 65536] 32 (0,0))/\Bs w1 w1.heap.size (.slice dA 13 dc) b:=hF 9 (by simp)
  obtain⟨qs2,X1,x1,X2,x2,e8,hqs,hrs,hx1,hx2⟩:∃q X1 x1 X2 x2,v 8=.pointer (some ⟨q,0,none⟩)/\w1r.heap.size<=q/\w1.heap[q]?=some (.cells #[.slice X1 16 x1,.slice X2 16 x2,.int .i64 1] 29 (0,0))/\Bs w1 w1.heap.size (.slice X1 16 x1) Z16/\Bs w1 w1.heap.size (.slice X2 16 x2) Z16:=hF 10 (by simp)
  simp only [iE,iJ,jf,Act.put,iM,Nat.reduceAdd,iS,iC,iD]
  simp only [e7,e8,e11]
  clear e1 e6 e7 e8 e11
  obtain⟨w2r,hw2⟩:∃w2r,w2r=w1:=⟨_,rfl⟩
  rw [<-hw2]at hJ hrc hrs hdc |-
  have HRC2:=iH hrc;have HRS2:=iH hrs;have HD2:=iH hdc
  have HBW2:=iH (HBW1.out.trans (hJ.1.mono HBW1.out.size))
  clear hJ hF hrc hrs hdc hx1 hx2 hqc hqs hw2
  go_upto_region 3 with fail
  refine je 12 [some 17,some 18,some 19,some 16,some 20,some 21,some 22,some 5,some 6,none,none,some 7] [[],[],[0,1],[0,1,2],[0,1,2,3],[0,1,2,3],[0,1,2,3],[],[],[0,1,2,3,4,7,8],[0,1,2,3,4,5,7,8,9],[0,1,2,3,4,5,6,7,8,9,10]]
   (JZ2 w2r 7 9 8 10) (RZ2 w2r)
   [fun v w1=>∃X1 x1 X2 x2,v 0=.agg #[.slice X1 16 x1,.slice X2 16 x2,.int .i64 0]/\Bs w1 w1.heap.size (.slice X1 16 x1) Z16/\Bs w1 w1.heap.size (.slice X2 16 x2) Z16,
    fun v _=>v 1=.agg #[.int .i64 12,.int .i64 176,.int .i64 0,.int .i64 0,.slice dA2 13 dc2,.int .i64 65536],
    fun v w1=>∃dA dc X1 x1 X2 x2,v 2=.tuple #[.agg #[.int .i64 0,.int .i64 176,.int .i64 0,.int .i64 0,.slice dA 0 dc,.int .i64 8],.agg #[.slice X1 16 x1,.slice X2 16 x2,.int .i64 1],.int .i64 0]/\Bs w1 w1.heap.size (.slice dA 0 dc) []/\Bs w1 w1.heap.size (.slice X1 16 x1) Z16/\Bs w1 w1.heap.size (.slice X2 16 x2) Z16,
    fun v w1=>∃dA dc X1 x1 X2 x2,v 3=.tuple #[.agg #[.int .i64 0,.int .i64 176,.int .i64 0,.int .i64 0,.slice dA 0 dc,.int .i64 8],.agg #[.slice X1 16 x1,.slice X2 16 x2,.int .i64 1],.int .i64 0]/\Bs w1 w1.heap.size (.slice dA 0 dc) []/\Bs w1 w1.heap.size (.slice X1 16 x1) Z16/\Bs w1 w1.heap.size (.slice X2 16 x2) Z16,
    fun v w1=>∃dA dc,v 4=.agg #[.int .i64 0,.int .i64 176,.int .i64 0,.int .i64 0,.slice dA 0 dc,.int .i64 8]/\Bs w1 w1.heap.size (.slice dA 0 dc) [],
    fun v w1=>∃X1 x1 X2 x2,v 5=.agg #[.slice X1 16 x1,.slice X2 16 x2,.int .i64 1]/\Bs w1 w1.heap.size (.slice X1 16 x1) Z16/\Bs w1 w1.heap.size (.slice X2 16 x2) Z16,
    fun v _=>v 6=.int .i64 0,
    fun v w1=>True,
    fun v w1=>True,
    fun v w1=>∃q dA dc,v 7=.pointer (some ⟨q,0,none⟩)/\w2r.heap.size<=q/\w1.heap[q]?=some (.cells #[.int .i64 0,.int .i64 176,.int .i64 0,.int .i64 0,.slice dA 0 dc,.int .i64 8] 32 (0,0))/\Bs w1 w1.heap.size (.slice dA 0 dc) [],
    fun v w1=>∃q X1 x1 X2 x2,v 8=.pointer (some ⟨q,0,none⟩)/\w2r.heap.size<=q/\w1.heap[q]?=some (.cells #[.slice X1 16 x1,.slice X2 16 x2,.int .i64 1] 29 (0,0))/\Bs w1 w1.heap.size (.slice X1 16 x1) Z16/\Bs w1 w1.heap.size (.slice X2 16 x2) Z16,
    fun v _=>v 11=.int .i64 0]
   (by kernel_rfl) (by kernel_rfl) (fun _=>JZ2.start) ?st3 ?steps3 ?tail3
  case st3=>
   exact(.cons (fun _ _ _ _ _ hr ⟨X1,x1,X2,x2,e,h1,h2⟩=>⟨X1,x1,X2,x2,e,h1.rz2 hr,h2.rz2 hr⟩) (.cons (fun _ _ _ _ _ _ h=>h) (.cons (fun _ _ _ _ _ hr ⟨dA,dc,X1,x1,X2,x2,e,h0,h1,h2⟩=>⟨dA,dc,X1,x1,X2,x2,e,h0.rz2 hr,h1.rz2 hr,h2.rz2 hr⟩) (.cons (fun _ _ _ _ _ hr ⟨dA,dc,X1,x1,X2,x2,e,h0,h1,h2⟩=>⟨dA,dc,X1,x1,X2,x2,e,h0.rz2 hr,h1.rz2 hr,h2.rz2 hr⟩) (.cons (fun _ _ _ _ _ hr ⟨dA,dc,e,h⟩=>⟨dA,dc,e,h.rz2 hr⟩) (.cons (fun _ _ _ _ _ hr ⟨X1,x1,X2,x2,e,h1,h2⟩=>⟨X1,x1,X2,x2,e,h1.rz2 hr,h2.rz2 hr⟩) (.cons (fun _ _ _ _ _ _ h=>h) (.cons (fun _ _ _ _ _ _ h=>h) (.cons (fun _ _ _ _ _ _ h=>h) (.cons (fun _ _ _ _ _ hr ⟨q,dA,dc,e,hq,hw,h⟩=>⟨q,dA,dc,e,hq,hr.row6 hw (by simp),h.rz2 hr⟩) (.cons (fun _ _ _ _ _ hr ⟨q,X1,x1,X2,x2,e,hq,hw,h1,h2⟩=>⟨q,X1,x1,X2,x2,e,hq,hr.row3 hw (by simp),h1.rz2 hr,h2.rz2 hr⟩) (.cons (fun _ _ _ _ _ _ h=>h) .nil))))))))))))
  case steps3=>
   simp only [iI,iK]
   refine(.cons ?_ (.cons ?_ (.cons ?_ (.cons ?_ (.cons ?_ (.cons ?_ (.cons ?_ (.cons ?_ (.cons ?_ (.cons ?_ (.cons ?_ (.cons ?_ .nil))))))))))))
   all_goals(intro L v w1 hJ hL hA hF K hK;simp only [jf,Act.put,iM,Nat.reduceAdd,iS,iC,iD]at hK |-)
   ·go_simp
    refine(ZG w1).mono ?_
    rintro e w5 ⟨X1,x1,X2,x2,rfl,h1,h2,hb⟩
    exact hK _ _ (hJ.step hb 0 (by decide) (by decide) (by decide) (by decide)) (RZ2.of hb) ⟨_,_,_,_,rfl,h1,h2⟩
   ·obtain⟨c0,c1,c2,c3,c4,c5,_⟩:=jp ((hJ.1.block qc2 (iG HRC2.out)).trans HRC2.out)
    go_simp
    refine hK _ _ (hJ.step iB 1 (by decide) (by decide) (by decide) (by decide)) RZ2.refl ?_
    first|exact rfl|exact j5 _
   ·have e1:v 1=.agg #[.int .i64 12,.int .i64 176,.int .i64 0,.int .i64 0,.slice dA2 13 dc2,.int .i64 65536]:=hF 1 (hA 1 (by simp))
    simp only [e1]at hK
    obtain⟨X1,x1,X2,x2,e0,h1,h2⟩:∃X1 x1 X2 x2,v 0=.agg #[.slice X1 16 x1,.slice X2 16 x2,.int .i64 0]/\Bs w1 w1.heap.size (.slice X1 16 x1) Z16/\Bs w1 w1.heap.size (.slice X2 16 x2) Z16:=hF 0 (hA 0 (by simp))
    simp only [e0]at hK
    go_simp
    refine(HUN.out (.slice X1 16 x1) (.slice X2 16 x2) (.slice dA2 13 dc2) w1 h1 h2 (HD2.out.lift hJ.1)).mono ?_
    rintro e w5 ⟨cv,sv,rfl,⟨dd,rfl,hd⟩,⟨y1,y2,rfl,g1,g2⟩,hb⟩
    obtain⟨dA,dc,hp⟩:∃A c,dd=.slice A 0 c:=(by obtain⟨a,c,e,_⟩:=hd;exact⟨a,c,by rw [e,LD3.out]⟩)
    obtain⟨Y1,c1,hp1⟩:∃A c,y1=.slice A 16 c:=(by obtain⟨a,c,e,_⟩:=g1;exact⟨a,c,by rw [e,qs]⟩)
    obtain⟨Y2,c2,hp2⟩:∃A c,y2=.slice A 16 c:=(by obtain⟨a,c,e,_⟩:=g2;exact⟨a,c,by rw [e,qs]⟩)
    subst hp;subst hp1;subst hp2
    exact hK _ _ (hJ.step hb 2 (by decide) (by decide) (by decide) (by decide)) (RZ2.of hb) ⟨_,_,_,_,_,_,rfl,hd,g1,g2⟩
   ·obtain⟨dA,dc,X1,x1,X2,x2,e2,h0,h1,h2⟩:∃dA dc X1 x1 X2 x2,v 2=.tuple #[.agg #[.int .i64 0,.int .i64 176,.int .i64 0,.int .i64 0,.slice dA 0 dc,.int .i64 8],.agg #[.slice X1 16 x1,.slice X2 16 x2,.int .i64 1],.int .i64 0]/\Bs w1 w1.heap.size (.slice dA 0 dc) []/\Bs w1 w1.heap.size (.slice X1 16 x1) Z16/\Bs w1 w1.heap.size (.slice X2 16 x2) Z16:=hF 2 (hA 2 (by simp))
    simp only [e2]at hK
    go_simp
    exact hK _ _ (hJ.step iB 3 (by decide) (by decide) (by decide) (by decide)) RZ2.refl ⟨_,_,_,_,_,_,rfl,h0,h1,h2⟩
   ·obtain⟨dA,dc,X1,x1,X2,x2,e3,h0,h1,h2⟩:∃dA dc X1 x1 X2 x2,v 3=.tuple #[.agg #[.int .i64 0,.int .i64 176,.int .i64 0,.int .i64 0,.slice dA 0 dc,.int .i64 8],.agg #[.slice X1 16 x1,.slice X2 16 x2,.int .i64 1],.int .i64 0]/\Bs w1 w1.heap.size (.slice dA 0 dc) []/\Bs w1 w1.heap.size (.slice X1 16 x1) Z16/\Bs w1 w1.heap.size (.slice X2 16 x2) Z16:=hF 3 (hA 3 (by simp))
    simp only [e3]at hK
    go_simp
    exact hK _ _ (hJ.step iB 4 (by decide) (by decide) (by decide) (by decide)) RZ2.refl ⟨_,_,rfl,h0⟩
   ·obtain⟨dA,dc,X1,x1,X2,x2,e3,h0,h1,h2⟩:∃dA dc X1 x1 X2 x2,v 3=.tuple #[.agg #[.int .i64 0,.int .i64 176,.int .i64 0,.int .i64 0,.slice dA 0 dc,.int .i64 8],.agg #[.slice X1 16 x1,.slice X2 16 x2,.int .i64 1],.int .i64 0]/\Bs w1 w1.heap.size (.slice dA 0 dc) []/\Bs w1 w1.heap.size (.slice X1 16 x1) Z16/\Bs w1 w1.heap.size (.slice X2 16 x2) Z16:=hF 3 (hA 3 (by simp))
    simp only [e3]at hK
    go_simp
    exact hK _ _ (hJ.step iB 5 (by decide) (by decide) (by decide) (by decide)) RZ2.refl ⟨_,_,_,_,rfl,h1,h2⟩
   ·obtain⟨dA,dc,X1,x1,X2,x2,e3,h0,h1,h2⟩:∃dA dc X1 x1 X2 x2,v 3=.tuple #[.agg #[.int .i64 0,.int .i64 176,.int .i64 0,.int .i64 0,.slice dA 0 dc,.int .i64 8],.agg #[.slice X1 16 x1,.slice X2 16 x2,.int .i64 1],.int .i64 0]/\Bs w1 w1.heap.size (.slice dA 0 dc) []/\Bs w1 w1.heap.size (.slice X1 16 x1) Z16/\Bs w1 w1.heap.size (.slice X2 16 x2) Z16:=hF 3 (hA 3 (by simp))
    simp only [e3]at hK
    go_simp
    exact hK _ _ (hJ.step iB 6 (by decide) (by decide) (by decide) (by decide)) RZ2.refl rfl
   ·go_simp
    exact hK _ _ (hJ.alloc6 (by decide) (by decide) (by decide)) (RZ2.of (iA)) trivial
   ·go_simp
    exact hK _ _ (hJ.alloc3 (by decide) (by decide) (by decide)) (RZ2.of (iA)) trivial
   ·obtain⟨q,e7,hq0,hq1,hrow⟩:=hJ.2.1 hL (hA 7 (by simp))
    obtain⟨dA,dc,e4,hd⟩:∃dA dc,v 4=.agg #[.int .i64 0,.int .i64 176,.int .i64 0,.int .i64 0,.slice dA 0 dc,.int .i64 8]/\Bs w1 w1.heap.size (.slice dA 0 dc) []:=hF 4 (hA 4 (by simp))
    simp only [e7,e4]at hK |-
    obtain⟨z0,z1,z2,z3,z4,z5,zf⟩:=jp hrow
    have zf0:=zf 0;have zf1:=zf 1;have zf2:=zf 2;have zf3:=zf 3;have zf4:=zf 4;have zf5:=zf 5
    clear zf
    go_simp
    exact hK undef _ (hJ.store6 hq0 hrow (by decide) (by decide) (by decide)) (RZ2.set6 hrow _ _ _ _ _ _) ⟨q,dA,dc,e7,hq0,Qg _ _ _ _ _ _ hrow,hd.rz2 (RZ2.set6 (w0:=w2r) hrow _ _ _ _ _ _)⟩
   ·obtain⟨q,e8,hq0,hq1,hrow⟩:=hJ.2.2 hL (hA 8 (by simp))
    obtain⟨X1,x1,X2,x2,e5,h1,h2⟩:∃X1 x1 X2 x2,v 5=.agg #[.slice X1 16 x1,.slice X2 16 x2,.int .i64 1]/\Bs w1 w1.heap.size (.slice X1 16 x1) Z16/\Bs w1 w1.heap.size (.slice X2 16 x2) Z16:=hF 5 (hA 5 (by simp))
    simp only [e8,e5]at hK |-
    obtain⟨z0,z1,z2,zf⟩:=j9 hrow
    have zf0:=zf 0;have zf1:=zf 1;have zf2:=zf 2
    clear zf
    go_simp
    exact hK undef _ (hJ.store3 hq0 hrow (by decide) (by decide) (by decide)) (RZ2.set3 hrow _ _ _) ⟨q,X1,x1,X2,x2,e8,hq0,kh _ _ _ hrow,h1.rz2 (RZ2.set3 (w0:=w2r) hrow _ _ _),h2.rz2 (RZ2.set3 (w0:=w2r) hrow _ _ _)⟩
   ·have e6:v 6=.int .i64 0:=hF 6 (hA 6 (by simp))
    simp only [e6]at hK
    go_simp
    refine hK _ _ (hJ.step iB 11 (by decide) (by decide) (by decide) (by decide)) RZ2.refl ?_
    first|exact rfl|exact j5 _
  case tail3=>
   intro v w1 hJ hF
   have e1:v 1=.agg #[.int .i64 12,.int .i64 176,.int .i64 0,.int .i64 0,.slice dA2 13 dc2,.int .i64 65536]:=hF 1 (by simp)
   have e6:v 6=.int .i64 0:=hF 6 (by simp)
   have e11:v 11=.int .i64 0:=hF 11 (by simp)
   obtain⟨qc3,dA3,dc3,e7,hqc,hrc,hdc⟩:∃q dA dc,v 7=.pointer (some ⟨q,0,none⟩)/\w2r.heap.size<=q/\w1.heap[q]?=some (.cells #[.int .i64 0,.int .i64 176,.int .i64 0,.int .i64 0,.slice dA 0 dc,.int .i64 8] 32 (0,0))/\Bs w1 w1.heap.size (.slice dA 0 dc) []:=hF 9 (by simp)
   obtain⟨qs3,X1,x1,X2,x2,e8,hqs,hrs,hx1,hx2⟩:∃q X1 x1 X2 x2,v 8=.pointer (some ⟨q,0,none⟩)/\w2r.heap.size<=q/\w1.heap[q]?=some (.cells #[.slice X1 16 x1,.slice X2 16 x2,.int .i64 1] 29 (0,0))/\Bs w1 w1.heap.size (.slice X1 16 x1) Z16/\Bs w1 w1.heap.size (.slice X2 16 x2) Z16:=hF 10 (by simp)
   simp only [iE,iJ,jf,Act.put,iM,Nat.reduceAdd,iS,iC,iD]
   simp only [e7,e8,e11]
   clear e1 e6 e7 e8 e11
   obtain⟨w3r,hw3⟩:∃w3r,w3r=w1:=⟨_,rfl⟩
   rw [<-hw3]at hJ hrc hrs |-
   obtain⟨y0,y1,y2,_⟩:=j9 hrs
   obtain⟨z0,z1,z2,z3,z4,z5,_⟩:=jp hrc
   obtain⟨x0,x1',x2',x3,x4,x5,_⟩:=jp ((hJ.1.block qc2 (iG HRC2.out)).trans HRC2.out)
   obtain⟨u0,u1,u2,_⟩:=j9 ((hJ.1.block qs2 (iG HRS2.out)).trans HRS2.out)
   have HB3:=iH (HBW2.out.trans (hJ.1.mono HBW2.out.size))
   clear hJ hF hrc hrs hdc hx1 hx2 hqc hqs hw3
   go_wp2_with fail
   go_ret
   exact⟨rfl,HB3.out⟩
theorem YQ(k1 k2:List UInt8)(n:Int)(d:List UInt8)(st:Int):(kg k1 k2 n d st).2.1.length<=4096:=by
 unfold kg
 split
 ·simp
 split
 ·simp
 split
 ·simp
 cases h:qJ k2 (yM (n+1)) [] ((j6 k1 (yM (n+1)) d).app (stN st))with
 |error e=>simp [ZR]
 |ok b=>
  show b.length<=4096
  unfold qJ at h
  split at h
  ·cases h
  ·exact KT h
theorem xk(v:Value)(n:Nat)(w:World)(hv:IntsS w (·<w.heap.size) v n):Calls Tryz.prog 5 #[v] w fun e w'=>e=.returned (.bool true)/\Below w.heap.size w w':=by
 have HL:=iH (UV _ v n w hv)
 have HR:=iH (j2f v n w hv)
 obtain⟨va,vc,rfl⟩:=hv.form
 clear hv
 by_cases hn:(n:Int)<=400
 ·have hn1:decide ((n:Int)<=400)=true:=decide_eq_true hn
  rw [hn1]at HL
  clear hn hn1
  obtain⟨p,hp⟩:∃p,w.heap.size=p:=⟨_,rfl⟩
  obtain⟨B,hB⟩:∃B,p+1=B:=⟨_,rfl⟩
  have HR:Hid (Calls Tryz.prog 9 #[.slice va n vc] w fun e w'=>e=.returned (.pointer (some ⟨p,0,none⟩))/\Die B w' p n/\Below p w w'):=iH (by rw [<-hB,<-hp];exact HR.out)
  have HW:=iH hp
  rw [hp]
  clear hp
  go_enter Tryz.func5,Tryz.ntmps5
  go_upto_region 5 with (first
   |(go_at_call 7;refine HL.out.mono ?_;rintro e w' ⟨rfl,hw'⟩;rw [hw'];clear hw' w')
   |(go_at_call 9;refine HR.out.mono ?_;rintro e w1 ⟨rfl,hd,hb⟩;have D1:Hid (DiePost B w1 p n w1):=iH (DiePost.refl hd);have B1:=iH hb;have L1:=hd.le;have L2:=hd.lt;clear hd hb)
   |(go_at_call 20;refine(KR B p n w2 D2.out.1).mono ?_;rintro e w3 ⟨v,c,st,rfl,⟨ud,rfl,hc⟩,_,hd⟩;obtain⟨A3,d3,hp⟩:=Bs.formL hc;subst hp;have D3:=iH (D2.out.trans hd);have X3:=iH (X2.out.rollO hd);have Y3:=iH (Y2.out.rollO hd);have Z3:=iH (hc.newO (p:=p) (by omega));have z3:=hd.2.size;clear hc hd)
   |(go_at_call 10;refine(QF B p n w1 D1.out.1).mono ?_;rintro e w2 ⟨v,k1,k2,m,rfl,⟨ua,ub,rfl,ha,hb⟩,hvs,hd⟩;obtain⟨A1,d1,hp⟩:=Bs.formL ha;subst hp;obtain⟨A2,d2,hp⟩:=Bs.formL hb;subst hp;have D2:=iH hd;have X2:=iH (ha.newO (p:=p) (by omega));have Y2:=iH (hb.newO (p:=p) (by omega));have z2:=hd.2.size;clear ha hb hd))
  obtain⟨wa,hwa⟩:∃u,u=(w3.alloc (.cells #[.slice A1 k1.length d1,.slice A2 k2.length d2,.int .i64 m] 29)).alloc (.cells #[.slice A3 c.length d3,.int .i64 st] 44):=⟨_,rfl⟩
  rw [<-hwa]
  have hr1:wa.heap[w3.heap.size]?=some (.cells #[.slice A1 k1.length d1,.slice A2 k2.length d2,.int .i64 m] 29 (0,0)):=by rw [hwa,Below.heap_alloc _ _ _ (by simp)];exact iN
  have hr2:wa.heap[w3.heap.size+1]?=some (.cells #[.slice A3 c.length d3,.int .i64 st] 44 (0,0)):=by
   rw [hwa]
   have h:=heap_alloc_new (w3.alloc (.cells #[.slice A1 k1.length d1,.slice A2 k2.length d2,.int .i64 m] 29)) (.cells #[.slice A3 c.length d3,.int .i64 st] 44)
   rwa [xF]at h
  have hbw:Below w3.heap.size w3 wa:=by rw [hwa];exact(iA).alloc (by simp) _
  clear hwa
  have S0:Hid (SesAt p wa w3.heap.size k1 k2 m):=iH ⟨_,_,_,_,hr1,X3.out.rollO ((DiePost.refl D3.out.1).below hbw),Y3.out.rollO ((DiePost.refl D3.out.1).below hbw)⟩
  have C0:Hid (RspAt p wa (w3.heap.size+1) c st):=iH ⟨_,_,hr2,Z3.out.rollO ((DiePost.refl D3.out.1).below hbw)⟩
  have D0:Hid (DiePost B w1 p n wa):=iH (D3.out.below hbw)
  obtain⟨gs,hgs⟩:∃g,w3.heap.size=g:=⟨_,rfl⟩
  obtain⟨gc,hgc⟩:∃g,gs+1=g:=⟨_,rfl⟩
  rw [hgs]at S0 C0 |-
  rw [hgc]at C0 |-
  have gs1:gs≠p:=by omega
  have gc1:gc≠p:=by omega
  have gn:gs≠gc:=by omega
  have gn2:gc≠gs:=by omega
  have gs2:w1.heap.size<=gs:=by omega
  have gc2:w1.heap.size<=gc:=by omega
  clear hr1 hr2 hbw D2 D3 X2 Y2 X3 Y3 Z3 hvs hgs hgc z2 z3
  obtain⟨sA,sa,sB,sb,hr,hx,hy⟩:=S0.out;obtain⟨s0,s1,s2,sf⟩:=j9 hr;have sf0:=sf 0;have sf1:=sf 1;have sf2:=sf 2;have XS:=iH hx;have YS:=iH hy;have RS:=iH hr;clear sf hr hx hy
  obtain⟨cA,cC,hr,hx⟩:=C0.out;obtain⟨c0,c1,cf⟩:=jb hr;have cf0:=cf 0;have cf1:=cf 1;have Xc:=iH hx;have Rc:=iH hr;clear cf hr hx
  obtain⟨⟨E,C,S1,K1,K2,M⟩,hr1⟩:∃r,kg k1 k2 m c st=r:=⟨_,rfl⟩
  have HRW:=iH hr1
  have HCL:Hid (C.length<=1000000000):=iH (by have:=YQ k1 k2 m c st;rw [hr1]at this;simp only at this;omega)
  clear hr1
  go_upto_region 6 with (go_at_call 21;refine(Kv _ _ k1 k2 m c st wa ⟨_,_,rfl,XS.out.lo,YS.out.lo⟩ ⟨_,rfl,Xc.out.lo⟩).mono ?_;rw [HRW.out];rintro e w2 ⟨v,s,rfl,⟨d2,rfl,hd⟩,⟨x2,y2,rfl,hx,hy⟩,hb⟩;obtain⟨dA2,dc2,hp⟩:=Bs.formL hd;subst hp;obtain⟨xA2,xc2,hp⟩:=Bs.formL hx;subst hp;obtain⟨yA2,yc2,hp⟩:=Bs.formL hy;subst hp;have HB2:=iH hb;have HD2:=iH hd;obtain⟨hz,hs0⟩:=qY w2;obtain⟨n0,n1,nf⟩:=jb hz;have nf0:=nf 0;have nf1:=nf 1;obtain⟨m0,m1,m2,mf⟩:=j9 hs0;have mf0:=mf 0;have mf1:=mf 1;have mf2:=mf 2;clear nf mf hz hs0 hd hx hy hb)
  clear n0 n1 nf0 nf1 m0 m1 m2 mf0 mf1 mf2
  clear s0 s1 s2 sf0 sf1 sf2
  clear c0 cf0 c1 cf1
  clear XS YS RS Xc Rc
  obtain⟨wb,hwb⟩:∃u,u=(w2.alloc (.cells #[.slice dA2 C.length dc2,.int .i64 S1] 44)).alloc (.cells #[.slice xA2 K1.length xc2,.slice yA2 K2.length yc2,.int .i64 M] 29):=⟨_,rfl⟩
  rw [<-hwb]
  have hr1:wb.heap[w2.heap.size]?=some (.cells #[.slice dA2 C.length dc2,.int .i64 S1] 44 (0,0)):=by rw [hwb,Below.heap_alloc _ _ _ (by simp)];exact iN
  have hr2:wb.heap[w2.heap.size+1]?=some (.cells #[.slice xA2 K1.length xc2,.slice yA2 K2.length yc2,.int .i64 M] 29 (0,0)):=by
   rw [hwb]
   have h:=heap_alloc_new (w2.alloc (.cells #[.slice dA2 C.length dc2,.int .i64 S1] 44)) (.cells #[.slice xA2 K1.length xc2,.slice yA2 K2.length yc2,.int .i64 M] 29)
   rwa [xF]at h
  have hbw:Below w2.heap.size w2 wb:=by rw [hwb];exact(iA).alloc (by simp) _
  clear hwb
  have hbb:=HB2.out.trans (hbw.mono HB2.out.size)
  have E8:Hid (DiePost B wa p n wb):=iH ((DiePost.refl D0.out.1).below hbb)
  have D8:=iH (D0.out.trans E8.out);have S8:=iH (S0.out.roll E8.out gs1);have C8:=iH (C0.out.roll E8.out gc1)
  have W8:Hid (RspAt p wb w2.heap.size C S1):=iH ⟨_,_,hr1,(Bs.lift HD2.out hbw).offD D8.out.1⟩
  obtain⟨gw,hgw⟩:∃g,w2.heap.size=g:=⟨_,rfl⟩
  have l1:gs<w2.heap.size:=by
   obtain⟨_,_,_,_,h,_⟩:=S0.out
   exact iZ (iG h) HB2.out.size
  have l2:gc<w2.heap.size:=by
   obtain⟨_,_,h,_⟩:=C0.out
   exact iZ (iG h) HB2.out.size
  rw [hgw]at W8 l1 l2 |-
  have gw1:gw≠p:=by omega
  have gw2:w1.heap.size<=gw:=by omega
  have gw3:gw≠gs:=by omega
  have gw4:gw≠gc:=by omega
  have gw5:gs≠gw:=by omega
  have gw6:gc≠gw:=by omega
  clear hr1 hr2 hbw hbb hgw l1 l2 HB2 HD2 S0 C0 D0 E8
  go_upto_block 0 with (go_at_call 15;refine(jT B p n 5 wb D8.out.1 (by decide) (by decide)).mono ?_;rintro e w9 ⟨z,rfl,hz,hd⟩;have D9:=iH (D8.out.trans hd);have S9:=iH (S8.out.roll hd gs1);have C9:=iH (C8.out.roll hd gc1);have W9:=iH (W8.out.roll hd gw1);clear hd)
  clear S8 C8 D8 W8
  go_cut [] from 26 to 51 (fun wx=>DiePost B w1 p n wx/\(∃k1 k2 m,SesAt p wx gs k1 k2 m)/\RspAt p wx gc c st/\∃c st,RspAt p wx gw c st)
  case first=>
   have HB1:B<=w1.heap.size:=by omega
   obtain rfl|rfl|rfl|rfl|rfl:z=0\/z=1\/z=2\/z=3\/z=4:=by omega
   ·clear hz
    obtain⟨cA,cC,hr,hx⟩:=W9.out;obtain⟨c0,c1,cf⟩:=jb hr;have cf0:=cf 0;have cf1:=cf 1;have Xc:=iH hx;have Rc:=iH hr;clear cf hr hx
    go_wp2_with(go_at_call 16;refine(VU B p n C _ w9 Xc.out HCL.out D9.out.1).mono ?_;rintro e w10 ⟨v,l,rfl,hv,_,hd⟩;obtain⟨A6,d6,hp⟩:=Bs.formL hv;subst hp;have X6:=iH (hv.newO (p:=p) (by have:=D9.out.1.le;omega));have D6:=iH (D9.out.trans hd);have S6:=iH (S9.out.roll hd gs1);have C6:=iH (C9.out.roll hd gc1);have W6:=iH (W9.out.roll hd gw1);clear c0 cf0 c1 cf1;clear hv hd Rc Xc;obtain⟨cA,cC,hr,hx⟩:=W6.out;obtain⟨c0,c1,cf⟩:=jb hr;have cf0:=cf 0;have cf1:=cf 1;have Xc:=iH hx;have Rc:=iH hr;clear cf hr hx)
    go_meet
    exact⟨D6.out.set HB1 gw2 _,⟨_,_,_,S6.out.other Rc.out XY gw5 _⟩,C6.out.other Rc.out XY gw6 _,_,_,W6.out.setD X6.out⟩
   ·clear hz
    obtain⟨cA,cC,hr,hx⟩:=W9.out;obtain⟨c0,c1,cf⟩:=jb hr;have cf0:=cf 0;have cf1:=cf 1;have Xc:=iH hx;have Rc:=iH hr;clear cf hr hx
    go_wp2_with fail
    go_meet
    exact⟨D9.out.set HB1 gw2 _,⟨_,_,_,S9.out.other Rc.out XY gw5 _⟩,C9.out.other Rc.out XY gw6 _,_,_,W9.out.setS _⟩
   ·clear hz
    obtain⟨sA,sa,sB,sb,hr,hx,hy⟩:=S9.out;obtain⟨s0,s1,s2,sf⟩:=j9 hr;have sf0:=sf 0;have sf1:=sf 1;have sf2:=sf 2;have XS:=iH hx;have YS:=iH hy;have RS:=iH hr;clear sf hr hx hy
    go_wp2_with fail
    go_meet
    exact⟨D9.out.set HB1 gs2 _,⟨_,_,_,S9.out.setN _⟩,C9.out.other RS.out zN gn2 _,_,_,W9.out.other RS.out zN gw3 _⟩
   ·clear hz
    obtain⟨sA,sa,sB,sb,hr,hx,hy⟩:=S9.out;obtain⟨s0,s1,s2,sf⟩:=j9 hr;have sf0:=sf 0;have sf1:=sf 1;have sf2:=sf 2;have XS:=iH hx;have YS:=iH hy;have RS:=iH hr;clear sf hr hx hy
    go_wp2_with(go_at_call 17;refine(j20 B p n _ k1 k2 m w9 D9.out.1 ⟨_,_,rfl,XS.out,YS.out⟩).mono ?_;rintro e w10 ⟨v,l1,l2,m2,rfl,⟨u6,v6,rfl,hx6,hy6⟩,hd⟩;obtain⟨A6,d6,hp⟩:=Bs.formL hx6;subst hp;obtain⟨A7,d7,hp⟩:=Bs.formL hy6;subst hp;have D6:=iH (D9.out.trans hd);have S6:=iH (S9.out.roll hd gs1);have C6:=iH (C9.out.roll hd gc1);have W6:=iH (W9.out.roll hd gw1);have X6:=iH hx6;have Y6:=iH hy6;clear s0 s1 s2 sf0 sf1 sf2;clear hx6 hy6 hd RS XS YS;obtain⟨sA,sa,sB,sb,hr,hx,hy⟩:=S6.out;obtain⟨s0,s1,s2,sf⟩:=j9 hr;have sf0:=sf 0;have sf1:=sf 1;have sf2:=sf 2;have XS:=iH hx;have YS:=iH hy;have RS:=iH hr;clear sf hr hx hy)
    go_meet
    exact⟨D6.out.set3 HB1 gs2 _ _ _,⟨_,_,_,SesAt.fill RS.out zN X6.out Y6.out⟩,C6.out.other3 S6.out gn2 _ _ _,_,_,W6.out.other3 S6.out gw3 _ _ _⟩
   ·clear hz
    go_wp2_with fail
    go_meet
    exact⟨D9.out,⟨_,_,_,S9.out⟩,C9.out,_,_,W9.out⟩
  case rest=>
   obtain⟨hd,⟨l1,l2,m9,hs⟩,hc,c9,st9,hw⟩:=hcut
   have D10:=iH hd;have S10:=iH hs;have C10:=iH hc;have W10:=iH hw
   clear hd hs hc hw S9 C9 W9 D9 hz HCL HRW
   go_wp2_with(first
    |(go_at_call 19;refine(Qa _ _ _ l1 l2 m9 c st c9 st9 w12 ⟨_,_,rfl,XS.out.lo,YS.out.lo⟩ ⟨_,rfl,Xc.out.lo⟩ ⟨_,rfl,Xd.out.lo⟩).mono ?_;rintro e w13 ⟨rfl,hb⟩;have B13:=iH (D12.out.below hb);clear hb c0 cf0 c1 cf1 d0 df0 d1 df1 s0 s1 s2 sf0 sf1 sf2)
    |(go_at_call 8;refine(Ke _).mono ?_;rintro e w12 ⟨rfl,hb⟩;have E12:=iH ((DiePost.refl D10.out.1).below hb);have D12:=iH (D10.out.trans E12.out);obtain⟨sA,sa,sB,sb,hr,hx,hy⟩:=(S10.out.roll E12.out gs1);obtain⟨s0,s1,s2,sf⟩:=j9 hr;have sf0:=sf 0;have sf1:=sf 1;have sf2:=sf 2;have XS:=iH hx;have YS:=iH hy;have RS:=iH hr;clear sf hr hx hy;obtain⟨cA,cC,hr,hx⟩:=(C10.out.roll E12.out gc1);obtain⟨c0,c1,cf⟩:=jb hr;have cf0:=cf 0;have cf1:=cf 1;have Xc:=iH hx;have Rc:=iH hr;clear cf hr hx;obtain⟨dA,dC,hr,hx⟩:=(W10.out.roll E12.out gw1);obtain⟨d0,d1,cf⟩:=jb hr;have df0:=cf 0;have df1:=cf 1;have Xd:=iH hx;have Rd:=iH hr;clear cf hr hx;clear hb))
   go_ret
   exact⟨rfl,B1.out.grown B13.out.2 (by omega) (fun k e=>by injection e with e;omega)⟩
 ·have hn1:decide ((n:Int)<=400)=false:=decide_eq_false hn
  rw [hn1]at HL
  clear hn hn1
  go_enter Tryz.func5,Tryz.ntmps5
  go_wp2_with(first
   |(go_at_call 7;refine HL.out.mono ?_;rintro e w' ⟨rfl,hw'⟩;rw [hw'];clear hw' w')
   |(go_at_call 8;refine(Ke _).mono ?_;rintro e w1 ⟨rfl,hb⟩;have HB:=iH hb;clear hb))
  go_ret
  exact⟨by simp,HB.out⟩
end Go.Proofs.YtadndhgebgjlaaaGreat
