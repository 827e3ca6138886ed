/- made.Dice: Exactly; made.Dice: Session; words for what the dice make; made.Dice: Command; made.Dice: Response, OddCommand, OddSession; Words: sessions, comma... -/
import Derived.Test.YtadndhgebgjlaaaPBn
import Derived.Test.YtadndhgebgjlaaaPBo
set_option linter.unusedVariables false
set_option linter.unnecessarySimpa false
set_option linter.unusedSimpArgs false
set_option maxRecDepth 100000
set_option maxHeartbeats 8000000
namespace Go.Proofs.Ytadndhgebgjlaaa
open Go.RowKit Go.Deep
theorem KH(B p n m:Nat)(w:World)(h:Die B w p n)(hm:m<=100000):
 Calls Try.prog 23 #[.pointer (some ⟨p,0,none⟩),.int .i64 m] w fun e w'=>∃v l,e=.returned v/\BsS w' (New w w') v l/\l.length=m/\DiePost B w p n w':=by
 have H0:=iH (DRow.start h)
 clear h
 go_enter Try.func23,Try.ntmps23
 go_wp2_with fail
 go_loopg [5,6] m (fun q o i wr=>∃l:List UInt8,l.length+q=m/\i=.int .i64 l.length/\DRow B w wr p n o l)
 case atStart=>exact⟨[],by simp,rfl,H0.out⟩
 case round=>
  obtain⟨l,hl,rfl,hR⟩:=hrel
  obtain⟨oa,oc,rfl⟩:=hR.own.form
  have HR:=iH hR
  clear hR
  by_cases hq:gk=0
  ·subst hq
   have hlm:¬(l.length:Int)<m:=by omega
   go_wp2_with fail
   go_ret
   exact⟨_,rfl,l,HR.out.own.out (by omega) w iL,by omega,HR.out.2.1⟩
  ·have hq1:0<gk:=by omega
   have hlm:(l.length:Int)<m:=by omega
   clear hq
   go_wp2_with(first
    |(at_builtin;(with_reducible refine xQ rfl (.tmp 12) (.tmp 16) rfl w.heap.size (.slice oa l.length oc) l rfl HR2.out.own (z:Int) (by omega) (by omega) _ w2.heap.size rfl rfl (by omega) HR2.out.size ?_);intro v3 w3 hgr;have H3:=iH (HR2.out.grew hgr);clear hgr)
    |(go_at_call 15;refine(jI B p n _ _ HR.out.die (by decide) (by decide)).mono ?_;rintro e w2 ⟨z,rfl,hz,hd⟩;have HR2:=iH (HR.out.call hd);clear hd))
   go_roundg (gk - 1)
   case measure=>omega
   case rel=>exact⟨_,by simp;omega,by simp,H3.out⟩
theorem DiePost.refl{B:Nat}{w:World}{p n:Nat}(h:Die B w p n):DiePost B w p n w:=⟨h,World.grownBy.refl _ _⟩
theorem DiePost.alloc{B:Nat}{w w1:World}{p n:Nat}(h:DiePost B w p n w1)(o:Obj):DiePost B w p n (w1.alloc o):=⟨h.1.alloc o,jt h.2 o⟩
theorem DiePost.drew{B:Nat}{w w1:World}{p n:Nat}(h:DiePost B w p n w1):DiePost B w p n w1.drew:=⟨h.1.keep iL fun _ _=>rfl,jO h.2⟩
theorem DiePost.set{B:Nat}{w w1:World}{p n g k:Nat}(h:DiePost B w p n w1)(hB:B<=w.heap.size)(hg:w.heap.size<=g)(u:Value):DiePost B w p n (w1.setCell ⟨g,k,none⟩ u):=
 ⟨h.1.keep (by simp) fun b hb=>iO (by show b≠g;omega),Ub h.2 (j5 (World.grownBy.refl _ _) (.inl rfl) _) hg⟩
theorem DiePost.below{B:Nat}{w w1 w2:World}{p n:Nat}(h:DiePost B w p n w1)(hb:Below w1.heap.size w1 w2):DiePost B w p n w2:=
 ⟨h.1.below (hb.mono h.1.le),jA h.2 (jh hb _)⟩
theorem DiePost.blk{B:Nat}{w w1:World}{p n k:Nat}(h:DiePost B w p n w1)(hk:k<w.heap.size)(hp:k≠p):w1.heap[k]?=w.heap[k]? :=h.2.block k hk fun e=>by injection e with e;exact hp e
theorem DiePost.set3{B:Nat}{w w1:World}{p n g:Nat}(h:DiePost B w p n w1)(hB:B<=w.heap.size)(hg:w.heap.size<=g)(a b c:Value):DiePost B w p n (set3 w1 g a b c):=((h.set hB hg a).set hB hg b).set hB hg c
def Btw(lo hi:Nat):Nat->Prop:=fun g=>lo<=g/\g<hi
theorem BsS.btw{w w1:World}{v:Value}{l:List UInt8}(h:BsS w1 (New w w1) v l){lo:Nat}(hl:lo<=w.heap.size):BsS w1 (Btw lo w1.heap.size) v l:=h.keep fun b hs _=>⟨rfl,by have:=hs.1;omega,hs.2⟩
theorem BsS.roll{B:Nat}{w1 w2:World}{p n lo hi:Nat}{v:Value}{l:List UInt8}(h:BsS w1 (Btw lo hi) v l)(hd:DiePost B w1 p n w2)(hp:p<lo):BsS w2 (Btw lo w2.heap.size) v l:=
 h.keep fun b hs hl=>⟨hd.blk hl (by have:=hs.1;omega),hs.1,iZ hl hd.2.size⟩
theorem BsS.fix{w1 w2:World}{lo hi:Nat}{v:Value}{l:List UInt8}(h:BsS w1 (Btw lo hi) v l)(hk:∀b,lo<=b->b<hi->w2.heap[b]?=w1.heap[b]?):BsS w2 (Btw lo hi) v l:=h.keep fun b hs _=>⟨hk b hs.1 hs.2,hs⟩
theorem BsS.wide{w1:World}{lo hi lo' hi':Nat}{v:Value}{l:List UInt8}(h:BsS w1 (Btw lo hi) v l)(h1:lo'<=lo)(h2:hi<=hi'):BsS w1 (Btw lo' hi') v l:=h.keep fun b hs _=>⟨rfl,by have:=hs.1;omega,by have:=hs.2;omega⟩
theorem Zd(B p n:Nat)(w:World)(h:Die B w p n):
 Calls Try.prog 23 #[.pointer (some ⟨p,0,none⟩),.int .i64 16] w fun e w'=>∃v l,e=.returned v/\BsS w' (New w w') v l/\l.length=16/\DiePost B w p n w':=KH B p n 16 w h (by decide)
def UG(B:Nat)(w:World)(p n:Nat)(P:List UInt8->List UInt8->Int->Prop)(e:Ending)(w':World):Prop:=∃v k1 k2 m,e=.returned v/\xk w' (New w w') v k1 k2 m/\P k1 k2 m/\DiePost B w p n w'
theorem QB{B p n hi:Nat}{w w7:World}{a b:Value}{k1 k2:List UInt8}{m:Int}{P:List UInt8->List UInt8->Int->Prop}(hB:B<=w.heap.size)(ha:BsS w7 (Btw (w.heap.size+1) hi) a k1)(hb:BsS w7 (Btw (w.heap.size+1) hi) b k2)(hv:P k1 k2 m)(hd:DiePost B w p n w7):
 UG B w p n P (.returned (.agg #[a,b,.int .i64 m])) (set3 w7 w.heap.size a b (.int .i64 m)):=by
 have key:∀ {v:Value} {l:List UInt8},BsS w7 (Btw (w.heap.size+1) hi) v l->BsS (set3 w7 w.heap.size a b (.int .i64 m)) (New w (set3 w7 w.heap.size a b (.int .i64 m))) v l:=fun h=>
  h.keep fun g hs hl=>⟨jr (by have:=hs.1;omega),by have:=hs.1;omega,by simpa [Go.Proofs.Ytadndhgebgjlaaa.set3]using hl⟩
 exact⟨_,k1,k2,m,rfl,⟨a,b,rfl,key ha,key hb⟩,hv,hd.set3 hB iL _ _ _⟩
theorem qs(B p n:Nat)(w:World)(h:Die B w p n):Calls Try.prog 9 #[.pointer (some ⟨p,0,none⟩)] w (UG B w p n fun k1 k2 m=>vS k1 k2 m=true):=by
 obtain⟨w0,hw0⟩:∃w0,w0=w.alloc (.cells #[.slice none 0 0,.slice none 0 0,.int .i64 0] 29):=⟨_,rfl⟩
 have D0:Hid (DiePost B w p n w0):=iH (by rw [hw0];exact(DiePost.refl h).alloc _)
 have R0:Hid (w0.heap[w.heap.size]?=some (.cells #[.slice none 0 0,.slice none 0 0,.int .i64 0] 29 (0,0))):=iH (by rw [hw0];exact iN)
 have z0:w0.heap.size=w.heap.size+1:=by rw [hw0];simp
 have HW0:=iH hw0
 have hBw:=h.le
 have hpB:=h.lt
 clear h hw0
 go_enter Try.func9,Try.ntmps9
 go_upto_region 1 with fail
 rw [<-HW0.out]
 go_upto_region 2 with (first
  |(go_at_call 15;refine(jI B p n 1048576 w2 D2.out.1 (by decide) (by decide)).mono ?_;rintro e w3 ⟨z,rfl,hz,hd⟩;have D3:=iH (D2.out.trans hd);have V13:=iH (V12.out.roll hd (by omega));have R3:=iH ((hd.blk (k:=w.heap.size) (by omega) (by omega)).trans R2.out);have V23:=iH (V22.out.roll hd (by omega));have z3:=hd.2.size;clear hd)
  |(go_at_call 23;refine(Zd B p n w1 D1.out.1).mono ?_;rintro e w2 ⟨v2,k2,rfl,hv,hl2,hd⟩;obtain⟨A2,c2,hp⟩:=Bs.formL hv;rw [hl2]at hp;subst hp;have L2:=iH hl2;have D2:=iH (D1.out.trans hd);have V12:=iH (V11.out.roll hd (by omega));have R2:=iH ((hd.blk (k:=w.heap.size) (by omega) (by omega)).trans R1.out);have V22:=iH (hv.btw (lo:=w0.heap.size) (by omega));have z2:=hd.2.size;clear hd hv hl2)
  |(go_at_call 23;refine(Zd B p n w0 D0.out.1).mono ?_;rintro e w1 ⟨v1,k1,rfl,hv,hl1,hd⟩;obtain⟨A1,c1,hp⟩:=Bs.formL hv;rw [hl1]at hp;subst hp;have L1:=iH hl1;have D1:=iH (D0.out.trans hd);have V11:=iH (hv.btw (lo:=w0.heap.size) (by omega));have R1:=iH ((hd.blk (k:=w.heap.size) (by omega) (by omega)).trans R0.out);have z1:=hd.2.size;clear hd hv hl1))
 obtain⟨w4,hw4⟩:∃w4,w4=w3.alloc (.cells #[.slice A1 16 c1,.slice A2 16 c2,.int .i64 z] 29):=⟨_,rfl⟩
 rw [<-hw4]
 have D4:Hid (DiePost B w p n w4):=iH (by rw [hw4];exact D3.out.alloc _)
 have B4:Hid (Below w3.heap.size w3 w4):=iH (by rw [hw4];exact iA)
 have R4:Hid (w4.heap[w3.heap.size]?=some (.cells #[.slice A1 16 c1,.slice A2 16 c2,.int .i64 z] 29 (0,0))):=iH (by rw [hw4];exact iN)
 have z4:w4.heap.size=w3.heap.size+1:=by rw [hw4];simp
 clear hw4
 go_upto_if 12 with (go_at_call 24;refine(KM B p n 9 w4 D4.out.1 (by decide) (by decide)).mono ?_;rintro e w5 ⟨b5,rfl,hd⟩;have D5:=iH hd;clear hd)
 cases b5
 ·obtain⟨w7,hw7⟩:∃w7,w7=w5:=⟨_,rfl⟩
  rw [<-hw7]
  obtain⟨M,hM⟩:∃M:Int,M=z:=⟨_,rfl⟩
  have D7:Hid (DiePost B w p n w7):=iH (by rw [hw7];exact D4.out.trans D5.out)
  have K7:Hid (∀b,b<w4.heap.size->b≠p->w7.heap[b]?=w4.heap[b]?):=iH (by rw [hw7];exact fun b h1 h2=>D5.out.blk h1 h2)
  have T7:Hid (w7.heap[w3.heap.size]?=some (.cells #[.slice A1 16 c1,.slice A2 16 c2,.int .i64 M] 29 (0,0))):=iH ((K7.out _ (by omega) (by omega)).trans (by rw [hM];exact R4.out))
  have M0:0<=M:=by omega
  have M1:M<=1099511627776:=by omega
  clear hw7 hM
  have R7:Hid (w7.heap[w.heap.size]?=some (.cells #[.slice none 0 0,.slice none 0 0,.int .i64 0] 29 (0,0))):=iH ((K7.out _ (by omega) (by omega)).trans ((B4.out.block _ (by omega)).trans R3.out))
  have X1:Hid (BsS w7 (Btw (w.heap.size+1) w3.heap.size) (.slice A1 16 c1) k1):=iH ((V13.out.wide (by omega) iL).fix fun b h1 h2=>(K7.out b (by omega) (by omega)).trans (B4.out.block b h2))
  have X2:Hid (BsS w7 (Btw (w.heap.size+1) w3.heap.size) (.slice A2 16 c2) k2):=iH ((V23.out.wide (by omega) iL).fix fun b h1 h2=>(K7.out b (by omega) (by omega)).trans (B4.out.block b h2))
  have hz7:w7.heap[w.heap.size]?=some (.cells #[.slice none 0 0,.slice none 0 0,.int .i64 0] 29 (0,0)):=R7.out
  obtain⟨q0,q1,q2,_⟩:=j9 T7.out
  obtain⟨z0,z1,z2,zf⟩:=j9 hz7
  have zf0:=zf 0;have zf1:=zf 1;have zf2:=zf 2
  obtain⟨y0,y1,y2,_⟩:=j9 (kG (.slice A1 16 c1) (.slice A2 16 c2) (.int .i64 M) R7.out)
  clear hz7 zf
  go_wp2_with fail
  refine bodyPost_ret (v:=.agg #[.slice A1 16 c1,.slice A2 16 c2,.int .i64 M]) (by simp only [set3]at y0 y1 y2;simp [results,Try.results9,go_sem,y0,y1,y2]) rfl ?_
  exact QB (hi:=w3.heap.size) (P:=fun k1 k2 m=>vS k1 k2 m=true) hBw X1.out X2.out (decide_eq_true ⟨L1.out,L2.out,M0,M1⟩) D7.out
 ·obtain⟨r0,r1,r2,rf⟩:=j9 ((D5.out.blk (k:=w3.heap.size) (by omega) (by omega)).trans R4.out)
  have rf2:=rf 2
  clear rf
  go_upto_region 4 with (go_at_call 15;refine(jI B p n 3 w5 D5.out.1 (by decide) (by decide)).mono ?_;rintro e w6 ⟨z6,rfl,hz6,hd⟩;have D6:=iH (D5.out.trans hd);obtain⟨u0,u1,u2,uf⟩:=j9 ((D6.out.blk (k:=w3.heap.size) (by omega) (by omega)).trans R4.out);have uf2:=uf 2;clear uf hd r0 r1 r2 rf2)
  obtain⟨M,hM⟩:∃M:Int,M=1099511627776 - z6:=⟨_,rfl⟩
  rw [<-hM]
  obtain⟨w7,hw7⟩:∃w7,w7=w6.setCell ⟨w3.heap.size,2,none⟩ (.int .i64 M):=⟨_,rfl⟩
  rw [<-hw7]
  have D7:Hid (DiePost B w p n w7):=iH (by rw [hw7];exact(D4.out.trans D6.out).set hBw (by omega) _)
  have K7:Hid (∀b,b<w3.heap.size->b≠p->w7.heap[b]?=w4.heap[b]?):=iH (by rw [hw7];exact fun b h1 h2=>(iO (by show b≠w3.heap.size;omega)).trans (D6.out.blk (by omega) h2))
  have T7:Hid (w7.heap[w3.heap.size]?=some (.cells #[.slice A1 16 c1,.slice A2 16 c2,.int .i64 M] 29 (0,0))):=iH (by rw [hw7];exact jb (o:=2) ((D6.out.blk (k:=w3.heap.size) (by omega) (by omega)).trans R4.out))
  have M0:0<=M:=by omega
  have M1:M<=1099511627776:=by omega
  clear hw7 hM u0 u1 u2 uf2
  have R7:Hid (w7.heap[w.heap.size]?=some (.cells #[.slice none 0 0,.slice none 0 0,.int .i64 0] 29 (0,0))):=iH ((K7.out _ (by omega) (by omega)).trans ((B4.out.block _ (by omega)).trans R3.out))
  have X1:Hid (BsS w7 (Btw (w.heap.size+1) w3.heap.size) (.slice A1 16 c1) k1):=iH ((V13.out.wide (by omega) iL).fix fun b h1 h2=>(K7.out b (by omega) (by omega)).trans (B4.out.block b h2))
  have X2:Hid (BsS w7 (Btw (w.heap.size+1) w3.heap.size) (.slice A2 16 c2) k2):=iH ((V23.out.wide (by omega) iL).fix fun b h1 h2=>(K7.out b (by omega) (by omega)).trans (B4.out.block b h2))
  have hz7:w7.heap[w.heap.size]?=some (.cells #[.slice none 0 0,.slice none 0 0,.int .i64 0] 29 (0,0)):=R7.out
  obtain⟨q0,q1,q2,_⟩:=j9 T7.out
  obtain⟨z0,z1,z2,zf⟩:=j9 hz7
  have zf0:=zf 0;have zf1:=zf 1;have zf2:=zf 2
  obtain⟨y0,y1,y2,_⟩:=j9 (kG (.slice A1 16 c1) (.slice A2 16 c2) (.int .i64 M) R7.out)
  clear hz7 zf
  go_wp2_with fail
  refine bodyPost_ret (v:=.agg #[.slice A1 16 c1,.slice A2 16 c2,.int .i64 M]) (by simp only [set3]at y0 y1 y2;simp [results,Try.results9,go_sem,y0,y1,y2]) rfl ?_
  exact QB (hi:=w3.heap.size) (P:=fun k1 k2 m=>vS k1 k2 m=true) hBw X1.out X2.out (decide_eq_true ⟨L1.out,L2.out,M0,M1⟩) D7.out
theorem DiePost.set6{B:Nat}{w w1:World}{p n g:Nat}(h:DiePost B w p n w1)(hB:B<=w.heap.size)(hg:w.heap.size<=g)(a b c d e f:Value):DiePost B w p n (set6 w1 g a b c d e f):=(((((h.set hB hg a).set hB hg b).set hB hg c).set hB hg d).set hB hg e).set hB hg f
theorem j12{w1 w2:World}{p k:Nat}(h:w1.grownBy w2 (some p))(hk:k<w1.heap.size)(hp:k≠p):w2.heap[k]?=w1.heap[k]? :=h.block k hk fun e=>by injection e with e;exact hp e
theorem BsS.rollG{w1 w2:World}{p lo hi:Nat}{v:Value}{l:List UInt8}(h:BsS w1 (Btw lo hi) v l)(hd:w1.grownBy w2 (some p))(hp:p<lo):BsS w2 (Btw lo w2.heap.size) v l:=
 h.keep fun b hs hl=>⟨j12 hd hl (by have:=hs.1;omega),hs.1,iZ hl hd.size⟩
theorem j1a{w:World}{g z:Nat}{t:TypeId}(h:w.heap[g]?=some (.cells #[.int .i64 0,.int .i64 0,.int .i64 0,.int .i64 128,.int .i64 224] t (0,0)))(hz:(z:Int)<5):∃q:Int,w.cell? ⟨g,z,none⟩=some (.int .i64 q)/\(q=0\/q=128\/q=224):=by
 rcases(by omega:z=0\/z=1\/z=2\/z=3\/z=4)with rfl|rfl|rfl|rfl|rfl<;>exact⟨_,cell_of_row _ _ _ _ _ _ h,by decide⟩
def UC(B:Nat)(w:World)(p n:Nat)(P:Cm->Prop)(e:Ending)(w':World):Prop:=∃v c,e=.returned v/\QI w' (New w w') v c/\P c/\DiePost B w p n w'
def QZ(c:Cm):Prop:=(c.cl=0\/c.cl=128\/c.cl=224)/\(0<=c.ins/\c.ins<=255)/\(0<=c.p1/\c.p1<=255)/\(0<=c.p2/\c.p2<=255)/\c.data.length<=3000/\(c.ex= -1\/(1<=c.ex/\c.ex<=65536))
def CSt(B p n:Nat)(w:World)(g:Nat)(q z1 z2 z3:Int)(A:Option Addr)(C:Nat)(L:List UInt8)(ex:Int)(wx:World):Prop:=
 DiePost B w p n wx/\wx.heap[g]?=some (.cells #[.int .i64 q,.int .i64 z1,.int .i64 z2,.int .i64 z3,.slice A L.length C,.int .i64 ex] 32 (0,0))/\wx.heap[w.heap.size]?=some (.cells #[.int .i64 0,.int .i64 0,.int .i64 0,.int .i64 0,.slice none 0 0,.int .i64 0] 32 (0,0))/\BsS wx (Btw (w.heap.size+1) wx.heap.size) (.slice A L.length C) L/\L.length<=4100
section
variable {B p n g:Nat} {w wx wy:World} {q z1 z2 z3 ex:Int} {A:Option Addr} {C:Nat} {L:List UInt8}
theorem CSt.die(h:CSt B p n w g q z1 z2 z3 A C L ex wx):Die B wx p n:=h.1.1
theorem CSt.row(h:CSt B p n w g q z1 z2 z3 A C L ex wx):wx.heap[g]?=some (.cells #[.int .i64 q,.int .i64 z1,.int .i64 z2,.int .i64 z3,.slice A L.length C,.int .i64 ex] 32 (0,0)):=h.2.1
theorem CSt.lt(h:CSt B p n w g q z1 z2 z3 A C L ex wx):w.heap.size<wx.heap.size/\g<wx.heap.size:=⟨(iG h.2.2.1),(iG h.2.1)⟩
theorem CSt.roll(h:CSt B p n w g q z1 z2 z3 A C L ex wx)(hd:DiePost B wx p n wy)(hp:p<w.heap.size)(hg:w.heap.size<g):CSt B p n w g q z1 z2 z3 A C L ex wy:=
 ⟨h.1.trans hd,(hd.blk h.lt.2 (by omega)).trans h.2.1,(hd.blk h.lt.1 (by omega)).trans h.2.2.1,h.2.2.2.1.roll hd (by omega),h.2.2.2.2⟩
theorem CSt.below(h:CSt B p n w g q z1 z2 z3 A C L ex wx)(hb:Below wx.heap.size wx wy)(hp:p<w.heap.size)(hg:w.heap.size<g):CSt B p n w g q z1 z2 z3 A C L ex wy:=
 h.roll (DiePost.below (DiePost.refl h.die) hb) hp hg
theorem CSt.alloc(h:CSt B p n w g q z1 z2 z3 A C L ex wx)(hp:p<w.heap.size)(hg:w.heap.size<g)(o:Obj):CSt B p n w g q z1 z2 z3 A C L ex (wx.alloc o):=
 h.roll ((DiePost.refl h.die).alloc o) hp hg
theorem CSt.data(h:CSt B p n w g q z1 z2 z3 A C L ex wx)(hB:B<=w.heap.size)(hg:w.heap.size<g){A2:Option Addr}{C2:Nat}{M:List UInt8}(hv:BsS wx (Btw (w.heap.size+1) wx.heap.size) (.slice A2 M.length C2) M)(hl:M.length<=4100){D:Value}(hD:D=.slice A2 M.length C2):
 CSt B p n w g q z1 z2 z3 A2 C2 M ex (wx.setCell ⟨g,4,none⟩ D):=by
 subst hD
 refine⟨h.1.set hB (by omega) _,jb (o:=4) h.row,(iO (by show w.heap.size≠g;omega)).trans h.2.2.1,?_,hl⟩
 exact BsS.keep (hv.off h.row Vt) fun b hs hl=>⟨iO hs.2,hs.1.1,by simpa using hl⟩
theorem CSt.exp(h:CSt B p n w g q z1 z2 z3 A C L ex wx)(hB:B<=w.heap.size)(hg:w.heap.size<g)(x:Int):CSt B p n w g q z1 z2 z3 A C L x (wx.setCell ⟨g,5,none⟩ (.int .i64 x)):=by
 refine⟨h.1.set hB (by omega) _,jb (o:=5) h.row,(iO (by show w.heap.size≠g;omega)).trans h.2.2.1,?_,h.2.2.2.2⟩
 exact BsS.keep (h.2.2.2.1.off h.row Vt) fun b hs hl=>⟨iO hs.2,hs.1.1,by simpa using hl⟩
theorem CSt.done(h:CSt B p n w g q z1 z2 z3 A C L ex wx)(hB:B<=w.heap.size){P:Cm->Prop}(hP:P ⟨q,z1,z2,z3,L,ex⟩):
 UC B w p n P (.returned (.agg #[.int .i64 q,.int .i64 z1,.int .i64 z2,.int .i64 z3,.slice A L.length C,.int .i64 ex])) (set6 wx w.heap.size (.int .i64 q) (.int .i64 z1) (.int .i64 z2) (.int .i64 z3) (.slice A L.length C) (.int .i64 ex)):=
 ⟨_,⟨q,z1,z2,z3,L,ex⟩,rfl,⟨_,rfl,h.2.2.2.1.keep fun b hs hl=>⟨jH (by have:=hs.1;omega),by have:=hs.1;omega,by rw [qz];exact hl⟩⟩,hP,h.1.set6 hB iL _ _ _ _ _ _⟩
theorem CSt.start{w0 w1:World}{a:Option Addr}{c:Nat}{l:List UInt8}(hd:DiePost B w p n w1)(hB:B<=w.heap.size)(hg:w0.heap.size<=g)(h0:w0.heap[w.heap.size]?=some (.cells #[.int .i64 0,.int .i64 0,.int .i64 0,.int .i64 0,.slice none 0 0,.int .i64 0] 32 (0,0)))(hz:w0.heap.size=w.heap.size+1)(hj:DiePost B w0 p n w1)(hp:w.heap.size≠p)
 {x0 x1 x2 x3 x4 x5:Value} (hr:w1.heap[g]?=some (.cells #[x0,x1,x2,x3,x4,x5] 32 (0,0))) (hn:noB #[x0,x1,x2,x3,x4,x5]) (hb:BsS w1 (Btw (w.heap.size+1) w1.heap.size) (.slice a l.length c) l) (hl:l.length<=4100):
 CSt B p n w g q z1 z2 z3 a c l ex (set6 w1 g (.int .i64 q) (.int .i64 z1) (.int .i64 z2) (.int .i64 z3) (.slice a l.length c) (.int .i64 ex)):=by
 refine⟨hd.set6 hB (by omega) _ _ _ _ _ _,xN _ _ _ _ _ _ hr,(jH (by omega)).trans ((hj.blk (by omega) hp).trans h0),?_,hl⟩
 exact BsS.keep (hb.off hr hn) fun b hs hl=>⟨jH hs.2,hs.1.1,by rw [qz];exact hl⟩
end
theorem j1c{w:World}{g z:Nat}{t:TypeId}(h:w.heap[g]?=some (.cells #[.int .i64 255,.int .i64 256,.int .i64 300,.int .i64 3000] t (0,0)))(hz:(z:Int)<4):∃k:Nat,w.cell? ⟨g,z,none⟩=some (.int .i64 k)/\k<=3000:=by
 rcases(by omega:z=0\/z=1\/z=2\/z=3)with rfl|rfl|rfl|rfl
 ·exact⟨255,cell_of_row _ _ _ _ _ _ h,by decide⟩
 ·exact⟨256,cell_of_row _ _ _ _ _ _ h,by decide⟩
 ·exact⟨300,cell_of_row _ _ _ _ _ _ h,by decide⟩
 ·exact⟨3000,cell_of_row _ _ _ _ _ _ h,by decide⟩
theorem j1b{w:World}{g z:Nat}{t:TypeId}(h:w.heap[g]?=some (.cells #[.int .i64 1,.int .i64 8,.int .i64 255,.int .i64 256,.int .i64 257,.int .i64 65535,.int .i64 65536] t (0,0)))(hz:(z:Int)<7):∃k:Int,w.cell? ⟨g,z,none⟩=some (.int .i64 k)/\1<=k/\k<=65536:=by
 rcases(by omega:z=0\/z=1\/z=2\/z=3\/z=4\/z=5\/z=6)with rfl|rfl|rfl|rfl|rfl|rfl|rfl<;>exact⟨_,cell_of_row _ _ _ _ _ _ h,by decide,by decide⟩
theorem zr(B p n:Nat)(w:World)(h:Die B w p n):Calls Try.prog 10 #[.pointer (some ⟨p,0,none⟩)] w (UC B w p n QZ):=by
 obtain⟨w0,hw0⟩:∃w0,w0=w.alloc (.cells #[.int .i64 0,.int .i64 0,.int .i64 0,.int .i64 0,.slice none 0 0,.int .i64 0] 32):=⟨_,rfl⟩
 have D0:Hid (DiePost B w p n w0):=iH (by rw [hw0];exact(DiePost.refl h).alloc _)
 have R0:Hid (w0.heap[w.heap.size]?=some (.cells #[.int .i64 0,.int .i64 0,.int .i64 0,.int .i64 0,.slice none 0 0,.int .i64 0] 32 (0,0))):=iH (by rw [hw0];exact iN)
 have z0:w0.heap.size=w.heap.size+1:=by rw [hw0];simp
 have HW0:=iH hw0
 have hBw:=h.le
 have hpB:=h.lt
 have HPB:Hid (p<w0.heap.size):=iH (by omega)
 clear h hw0
 go_enter Try.func10,Try.ntmps10
 go_upto_region 1 with fail
 rw [<-HW0.out]
 refine jc 15 [some 4,some 5,some 6,some 7,some 8,some 9,some 10,some 11,some 12,some 13,some 14,some 15,some 16,some 17,some 3] [[],[],[1],[0,1,2],[0,1,2,3],[],[1,2,5],[],[1,2,5,6,7],[],[1,2,5,6,7,8,9],[],[1,2,5,6,7,8,9,10,11],[0,1,2,3,4,5,6,7,8,9,10,11,12],[]]
  (fun _ _ w1=>DiePost B w0 p n w1) (fun w1 w2=>w1.grownBy w2 (some p))
  [fun v w1=>∃g,v 0=.slice (some ⟨g,0,none⟩) 5 5/\g≠p/\w0.heap.size<=g/\w1.heap[g]?=some (.cells #[.int .i64 0,.int .i64 0,.int .i64 0,.int .i64 128,.int .i64 224] 3 (0,0)),
   fun v _=>v 1=.pointer (some ⟨p,0,none⟩),
   fun v w1=>∃z:Nat,v 2=.int .i64 z/\(z:Int)<5,
   fun v w1=>∃(g z:Nat),v 3=.pointer (some ⟨g,z,none⟩)/\(z:Int)<5/\g≠p/\w1.heap[g]?=some (.cells #[.int .i64 0,.int .i64 0,.int .i64 0,.int .i64 128,.int .i64 224] 3 (0,0)),
   fun v w1=>∃q:Int,v 4=.int .i64 q/\(q=0\/q=128\/q=224),
   fun v _=>v 5=.pointer (some ⟨p,0,none⟩),
   fun v w1=>∃z:Nat,v 6=.int .i64 z/\(z:Int)<256,
   fun v _=>v 7=.pointer (some ⟨p,0,none⟩),
   fun v w1=>∃z:Nat,v 8=.int .i64 z/\(z:Int)<256,
   fun v _=>v 9=.pointer (some ⟨p,0,none⟩),
   fun v w1=>∃z:Nat,v 10=.int .i64 z/\(z:Int)<256,
   fun v _=>v 11=.pointer (some ⟨p,0,none⟩),
   fun v w1=>∃(a:Option Addr) (c:Nat) (l:List UInt8),v 12=.slice a l.length c/\l.length<=40/\BsS w1 (Btw w0.heap.size w1.heap.size) (.slice a l.length c) l,
   fun v w1=>∃(q z1 z2 z3:Int) (a:Option Addr) (c:Nat) (l:List UInt8),v 13=.agg #[.int .i64 q,.int .i64 z1,.int .i64 z2,.int .i64 z3,.slice a l.length c,.int .i64 (-1)]/\(q=0\/q=128\/q=224)/\(0<=z1/\z1<=255)/\(0<=z2/\z2<=255)/\(0<=z3/\z3<=255)/\l.length<=40/\BsS w1 (Btw w0.heap.size w1.heap.size) (.slice a l.length c) l,
   fun v w1=>∃g,v 14=.pointer (some ⟨g,0,none⟩)/\g≠p/\w0.heap.size<=g/\w1.heap[g]?=some (.cells #[.int .i64 0,.int .i64 0,.int .i64 0,.int .i64 0,.slice none 0 0,.int .i64 0] 32 (0,0))]
  (by kernel_rfl) (by kernel_rfl) (fun _=>DiePost.drew (DiePost.refl D0.out.1)) ?st ?steps ?tail
 case st=>
  exact(.cons (fun _ _ _ _ _ hr ⟨g,e,hp,hg,h⟩=>⟨g,e,hp,hg,(j12 hr (iG h) hp).trans h⟩) (.cons (fun _ _ _ _ _ _ h=>h) (.cons (fun _ _ _ _ _ _ h=>h) (.cons (fun _ _ _ _ _ hr ⟨g,z,e,hz,hp,h⟩=>⟨g,z,e,hz,hp,(j12 hr (iG h) hp).trans h⟩) (.cons (fun _ _ _ _ _ _ h=>h) (.cons (fun _ _ _ _ _ _ h=>h) (.cons (fun _ _ _ _ _ _ h=>h) (.cons (fun _ _ _ _ _ _ h=>h) (.cons (fun _ _ _ _ _ _ h=>h) (.cons (fun _ _ _ _ _ _ h=>h) (.cons (fun _ _ _ _ _ _ h=>h) (.cons (fun _ _ _ _ _ _ h=>h) (.cons (fun _ _ _ _ _ hr ⟨a,c,l,e,hl,h⟩=>⟨a,c,l,e,hl,h.rollG hr (by have:=HPB.out;omega)⟩) (.cons (fun _ _ _ _ _ hr ⟨q,z1,z2,z3,a,c,l,e,hq,h1,h2,h3,hl,h⟩=>⟨q,z1,z2,z3,a,c,l,e,hq,h1,h2,h3,hl,h.rollG hr (by have:=HPB.out;omega)⟩) (.cons (fun _ _ _ _ _ hr ⟨g,e,hp,hg,h⟩=>⟨g,e,hp,hg,(j12 hr (iG h) hp).trans h⟩) .nil)))))))))))))))
 case steps=>
  simp only [iI,iK]
  refine(.cons ?_ (.cons ?_ (.cons ?_ (.cons ?_ (.cons ?_ (.cons ?_ (.cons ?_ (.cons ?_ (.cons ?_ (.cons ?_ (.cons ?_ (.cons ?_ (.cons ?_ (.cons ?_ (.cons ?_ .nil)))))))))))))))
  all_goals(intro L v w1 hJ hL hA hF K hK;simp only [ja,Act.put,iM,Nat.reduceAdd,iS,iC,iD]at hK |-)
  ·go_simp
   exact hK _ _ (hJ.alloc _) (jt (World.grownBy.refl _ _) _) ⟨_,rfl,by have:=HPB.out;have:=hJ.2.size;omega,hJ.2.size,iN⟩
  ·go_simp
   refine hK _ _ hJ (World.grownBy.refl _ _) ?_
   first|exact rfl|exact j4 _
  ·have e1:v 1=.pointer (some ⟨p,0,none⟩):=hF 1 (hA 1 (by simp))
   simp only [e1]at hK
   go_simp
   refine(jI B p n 5 w1 hJ.1 (by decide) (by decide)).mono ?_
   rintro e w5 ⟨z,rfl,hz,hd⟩
   exact hK _ _ (hJ.trans hd) hd.2 ⟨z,rfl,hz⟩
  ·obtain⟨g,e0,hp,hg,h0⟩:∃g,v 0=.slice (some ⟨g,0,none⟩) 5 5/\g≠p/\w0.heap.size<=g/\w1.heap[g]?=some (.cells #[.int .i64 0,.int .i64 0,.int .i64 0,.int .i64 128,.int .i64 224] 3 (0,0)):=hF 0 (hA 0 (by simp))
   obtain⟨z,e2,hz⟩:∃z:Nat,v 2=.int .i64 z/\(z:Int)<5:=hF 2 (hA 2 (by simp))
   simp only [e0,e2]at hK
   go_simp
   exact hK _ _ hJ (World.grownBy.refl _ _) ⟨g,z,rfl,hz,hp,h0⟩
  ·obtain⟨g,z,e3,hz,hp,h0⟩:∃(g z:Nat),v 3=.pointer (some ⟨g,z,none⟩)/\(z:Int)<5/\g≠p/\w1.heap[g]?=some (.cells #[.int .i64 0,.int .i64 0,.int .i64 0,.int .i64 128,.int .i64 224] 3 (0,0)):=hF 3 (hA 3 (by simp))
   obtain⟨q,hc,hq⟩:=j1a h0 hz
   have HQ:=iH hq
   clear hq
   simp only [e3]at hK
   go_simp
   exact hK _ _ hJ (World.grownBy.refl _ _) ⟨q,rfl,HQ.out⟩
  ·go_simp
   refine hK _ _ hJ (World.grownBy.refl _ _) ?_
   first|exact rfl|exact j4 _
  ·have e5:v 5=.pointer (some ⟨p,0,none⟩):=hF 5 (hA 5 (by simp))
   simp only [e5]at hK
   go_simp
   refine(jI B p n 256 w1 hJ.1 (by decide) (by decide)).mono ?_
   rintro e w5 ⟨z,rfl,hz,hd⟩
   exact hK _ _ (hJ.trans hd) hd.2 ⟨z,rfl,hz⟩
  ·go_simp
   refine hK _ _ hJ (World.grownBy.refl _ _) ?_
   first|exact rfl|exact j4 _
  ·have e7:v 7=.pointer (some ⟨p,0,none⟩):=hF 7 (hA 7 (by simp))
   simp only [e7]at hK
   go_simp
   refine(jI B p n 256 w1 hJ.1 (by decide) (by decide)).mono ?_
   rintro e w5 ⟨z,rfl,hz,hd⟩
   exact hK _ _ (hJ.trans hd) hd.2 ⟨z,rfl,hz⟩
  ·go_simp
   refine hK _ _ hJ (World.grownBy.refl _ _) ?_
   first|exact rfl|exact j4 _
  ·have e9:v 9=.pointer (some ⟨p,0,none⟩):=hF 9 (hA 9 (by simp))
   simp only [e9]at hK
   go_simp
   refine(jI B p n 256 w1 hJ.1 (by decide) (by decide)).mono ?_
   rintro e w5 ⟨z,rfl,hz,hd⟩
   exact hK _ _ (hJ.trans hd) hd.2 ⟨z,rfl,hz⟩
  ·go_simp
   refine hK _ _ hJ (World.grownBy.refl _ _) ?_
   first|exact rfl|exact j4 _
  ·have e11:v 11=.pointer (some ⟨p,0,none⟩):=hF 11 (hA 11 (by simp))
   simp only [e11]at hK
   go_simp
   refine(yJ B p n 40 w1 hJ.1 (by decide) (by decide)).mono ?_
   rintro e w5 ⟨v5,l5,rfl,hv,hl,hd⟩
   obtain⟨a5,c5,hp5⟩:=Bs.formL hv
   subst hp5
   exact hK _ _ (hJ.trans hd) hd.2 ⟨a5,c5,l5,rfl,by omega,hv.btw hJ.2.size⟩
  ·obtain⟨q,e4,hq⟩:∃q:Int,v 4=.int .i64 q/\(q=0\/q=128\/q=224):=hF 4 (hA 4 (by simp))
   obtain⟨z1,e6,hz1⟩:∃z:Nat,v 6=.int .i64 z/\(z:Int)<256:=hF 6 (hA 6 (by simp))
   obtain⟨z2,e8,hz2⟩:∃z:Nat,v 8=.int .i64 z/\(z:Int)<256:=hF 8 (hA 8 (by simp))
   obtain⟨z3,e10,hz3⟩:∃z:Nat,v 10=.int .i64 z/\(z:Int)<256:=hF 10 (hA 10 (by simp))
   obtain⟨a,c,l,e12,hl,hb⟩:∃(a:Option Addr) (c:Nat) (l:List UInt8),v 12=.slice a l.length c/\l.length<=40/\BsS w1 (Btw w0.heap.size w1.heap.size) (.slice a l.length c) l:=hF 12 (hA 12 (by simp))
   have HQ:=iH hq
   clear hq
   simp only [e4,e6,e8,e10,e12]at hK
   go_simp
   exact hK _ _ hJ (World.grownBy.refl _ _) ⟨q,z1,z2,z3,a,c,l,rfl,HQ.out,by omega,by omega,by omega,hl,hb⟩
  ·go_simp
   exact hK _ _ (hJ.alloc _) (jt (World.grownBy.refl _ _) _) ⟨_,rfl,by have:=HPB.out;have:=hJ.2.size;omega,hJ.2.size,iN⟩
 case tail=>
  intro v w1 hJ hF
  have e1:v 1=.pointer (some ⟨p,0,none⟩):=hF 1 (by simp)
  have e5:v 5=.pointer (some ⟨p,0,none⟩):=hF 5 (by simp)
  have e7:v 7=.pointer (some ⟨p,0,none⟩):=hF 7 (by simp)
  have e9:v 9=.pointer (some ⟨p,0,none⟩):=hF 9 (by simp)
  have e11:v 11=.pointer (some ⟨p,0,none⟩):=hF 11 (by simp)
  obtain⟨q,z1,z2,z3,a,c,l,e13,hq,h1,h2,h3,hl,hb⟩:∃(q z1 z2 z3:Int) (a:Option Addr) (c:Nat) (l:List UInt8),v 13=.agg #[.int .i64 q,.int .i64 z1,.int .i64 z2,.int .i64 z3,.slice a l.length c,.int .i64 (-1)]/\(q=0\/q=128\/q=224)/\(0<=z1/\z1<=255)/\(0<=z2/\z2<=255)/\(0<=z3/\z3<=255)/\l.length<=40/\BsS w1 (Btw w0.heap.size w1.heap.size) (.slice a l.length c) l:=hF 13 (by simp)
  obtain⟨g,e14,hgp,hg0,hg⟩:∃g,v 14=.pointer (some ⟨g,0,none⟩)/\g≠p/\w0.heap.size<=g/\w1.heap[g]?=some (.cells #[.int .i64 0,.int .i64 0,.int .i64 0,.int .i64 0,.slice none 0 0,.int .i64 0] 32 (0,0)):=hF 14 (by simp)
  simp only [iE,iJ,ja,Act.put,iM,Nat.reduceAdd,iS,iC,iD]
  simp only [e13,e14]
  have HQ:=iH hq;have HB1:=iH hb;have HG:=iH hg;have HJ:=iH hJ;have H123:=iH (And.intro h1 (And.intro h2 h3));have HL:=iH hl
  clear hq hb hJ h1 h2 h3 hl hF e1 e5 e7 e9 e11 e13 e14
  obtain⟨m0,m1,m2,m3,m4,m5,mf⟩:=j8 hg
  have mf0:=mf 0;have mf1:=mf 1;have mf2:=mf 2;have mf3:=mf 3;have mf4:=mf 4;have mf5:=mf 5
  clear mf hg
  go_upto_region 2 with fail
  obtain⟨wa,hwa⟩:∃wa,wa=set6 w1 g (.int .i64 q) (.int .i64 z1) (.int .i64 z2) (.int .i64 z3) (.slice a l.length c) (.int .i64 (-1)):=⟨_,rfl⟩
  have SA:Hid (CSt B p n w g q z1 z2 z3 a c l (-1) wa):=iH (by rw [hwa];exact CSt.start (D0.out.trans HJ.out) hBw hg0 (R0.out) z0 HJ.out (by have:=HPB.out;omega) HG.out Vt (HB1.out.wide (by omega) iL) (by have:=HL.out;omega))
  unfold Go.Proofs.Ytadndhgebgjlaaa.set6 at hwa
  rw [<-hwa]
  clear hwa m0 m1 m2 m3 m4 m5 mf0 mf1 mf2 mf3 mf4 mf5 HB1 HJ HG
  have hpw:p<w.heap.size:=by omega
  have hgw:w.heap.size<g:=by omega
  go_upto_if 19 with (go_at_call 24;refine(KM B p n 8 wa SA.out.die (by decide) (by decide)).mono ?_;rintro e w5 ⟨b5,rfl,hd⟩;have S5:=iH (SA.out.roll hd hpw hgw);clear hd)
  go_cut [] from 18 to 26 (fun wx=>∃A C L,CSt B p n w g q z1 z2 z3 A C L (-1) wx/\L.length<=3000)
  case first=>
   cases b5
   ·go_wp2_with fail
    go_meet
    exact⟨_,_,_,S5.out,by have:=HL.out;omega⟩
   ·go_wp2_with(first
     |(at_make;(with_reducible refine JA rfl (.tmp 24) rfl (k:Int) k rfl rfl (Nat.le_trans hk6 (by decide)) ?_);intro w7 hx hb;have S7:=iH (S6.out.below hb hpw hgw);have X7:=iH (hx.btw (lo:=w.heap.size+1) (by have:=S6.out.lt;omega));clear hx hb;obtain⟨m0,m1,m2,m3,m4,m5,mf⟩:=j8 S7.out.row;have mf4:=mf 4;clear mf)
     |(go_at_call 15;refine(jI B p n 4 _ (S5.out.die.alloc _) (by decide) (by decide)).mono ?_;rintro e w6 ⟨z,rfl,hz,hd⟩;have S6:=iH ((S5.out.alloc hpw hgw _).roll hd hpw hgw);obtain⟨k,hc6,hk6⟩:=j1c ((hd.blk (k:=w5.heap.size) (by simp) (by have:=S5.out.lt;omega)).trans (iN)) hz;clear hd))
    go_meet
    exact⟨_,_,List.replicate k 0,S7.out.data (M:=List.replicate k 0) hBw hgw (by simpa using X7.out) (by simp;omega) (by simp),by simp;omega⟩
  case rest=>
   obtain⟨A2,C2,L2,hS,hL2⟩:=hcut
   have SB:=iH hS;have HL2:=iH hL2
   clear hS hL2 HL S5 SA b5
   go_upto_if 28 with (go_at_call 24;refine(KM B p n 2 wc SB.out.die (by decide) (by decide)).mono ?_;rintro e w5 ⟨b5,rfl,hd⟩;have S5:=iH (SB.out.roll hd hpw hgw);clear hd)
   go_cut [] from 27 to 34 (fun wx=>∃ex,CSt B p n w g q z1 z2 z3 A2 C2 L2 ex wx/\(ex= -1\/(1<=ex/\ex<=65536)))
   case first=>
    cases b5
    ·go_wp2_with fail
     go_meet
     exact⟨_,S5.out,.inl rfl⟩
    ·go_wp2_with(go_at_call 15;refine(jI B p n 7 _ (S5.out.die.alloc _) (by decide) (by decide)).mono ?_;rintro e w6 ⟨z,rfl,hz,hd⟩;have S6:=iH ((S5.out.alloc hpw hgw _).roll hd hpw hgw);obtain⟨k,hc6,hk6,hk7⟩:=j1b ((hd.blk (k:=w5.heap.size) (by simp) (by have:=S5.out.lt;omega)).trans (iN)) hz;clear hd;obtain⟨m0,m1,m2,m3,m4,m5,mf⟩:=j8 S6.out.row;have mf5:=mf 5;clear mf)
     go_meet
     exact⟨_,S6.out.exp hBw hgw k,.inr ⟨hk6,hk7⟩⟩
   case rest=>
    obtain⟨ex,hS,hE⟩:=hcut
    have SC:=iH hS;have HE:=iH hE
    clear hS hE S5 SB b5
    obtain⟨m0,m1,m2,m3,m4,m5,_⟩:=j8 SC.out.row
    obtain⟨n0,n1,n2,n3,n4,n5,nf⟩:=j8 SC.out.2.2.1
    have nf0:=nf 0;have nf1:=nf 1;have nf2:=nf 2;have nf3:=nf 3;have nf4:=nf 4;have nf5:=nf 5
    clear nf
    obtain⟨y0,y1,y2,y3,y4,y5,_⟩:=j8 (xN (.int .i64 q) (.int .i64 z1) (.int .i64 z2) (.int .i64 z3) (.slice A2 L2.length C2) (.int .i64 ex) SC.out.2.2.1)
    go_wp2_with fail
    refine bodyPost_ret (v:=.agg #[.int .i64 q,.int .i64 z1,.int .i64 z2,.int .i64 z3,.slice A2 L2.length C2,.int .i64 ex]) (by simp only [set6]at y0 y1 y2 y3 y4 y5;simp [results,Try.results10,go_sem,y0,y1,y2,y3,y4,y5]) rfl ?_
    exact SC.out.done hBw ⟨HQ.out,H123.out.1,H123.out.2.1,H123.out.2.2,HL2.out,HE.out⟩
def Ku(p:Nat)(w:World):Nat->Prop:=fun b=>b<w.heap.size/\b≠p
theorem BsS.rollO{B:Nat}{w w1:World}{p n:Nat}{v:Value}{l:List UInt8}(h:BsS w (Ku p w) v l)(hd:DiePost B w p n w1):BsS w1 (Ku p w1) v l:=h.keep fun b hs hl=>⟨hd.blk hl hs.2,iZ hl hd.2.size,hs.2⟩
theorem BsS.newO{w w1:World}{p:Nat}{v:Value}{l:List UInt8}(h:BsS w1 (New w w1) v l)(hp:p<w.heap.size):BsS w1 (Ku p w1) v l:=h.keep fun b hs hl=>⟨rfl,hl,by have:=hs.1;omega⟩
theorem BsS.setO{w:World}{p g k:Nat}{v:Value}{l:List UInt8}{C:Array Value}{t:TypeId}(h:BsS w (Ku p w) v l)(hr:w.heap[g]?=some (.cells C t (0,0))) (hn:noB C) (u:Value):BsS (w.setCell ⟨g,k,none⟩ u) (Ku p (w.setCell ⟨g,k,none⟩ u)) v l:=
 BsS.keep (h.off hr hn) fun b hs hl=>⟨iO hs.2,by simpa using hl,hs.1.2⟩
section
variable {B p n g:Nat} {w wx wy:World} {st:Int} {A:Option Addr} {C:Nat} {L:List UInt8}
end
section
variable {B p n:Nat} {w wx wy:World} {q z1 z2 z3 ex:Int} {A:Option Addr} {C:Nat} {L:List UInt8}
end
section
variable {B p n:Nat} {w wx wy:World} {A1 A2:Option Addr} {c1 c2:Nat} {k1 k2:List UInt8} {m:Int}
theorem K2{A1 A2:Option Addr}{a b c1 c2:Nat}{m:Int}:noB #[.slice A1 a c1,.slice A2 b c2,.int .i64 m]:=j01 _ _ _ _ _ _ _
theorem qT{w:World}{p g:Nat}{v:Value}{l:List UInt8}{x0 x1 x2:Value}{t:TypeId}(h:BsS w (Ku p w) v l)(hr:w.heap[g]?=some (.cells #[x0,x1,x2] t (0,0)))(hn:noB #[x0,x1,x2]) (a b c:Value):BsS (set3 w g a b c) (Ku p (set3 w g a b c)) v l:=
 BsS.keep (h.off hr hn) fun b hs hl=>⟨jr hs.2,by simpa [Go.Proofs.Ytadndhgebgjlaaa.set3]using hl,hs.1.2⟩
end
def SesAt(p:Nat)(w:World)(g:Nat)(k1 k2:List UInt8)(n:Int):Prop:=∃A c B d,w.heap[g]?=some (.cells #[.slice A k1.length c,.slice B k2.length d,.int .i64 n] 29 (0,0))/\BsS w (Ku p w) (.slice A k1.length c) k1/\BsS w (Ku p w) (.slice B k2.length d) k2
def CmdAt(p:Nat)(w:World)(g:Nat)(c:Cm):Prop:=∃A C,w.heap[g]?=some (.cells #[.int .i64 c.cl,.int .i64 c.ins,.int .i64 c.p1,.int .i64 c.p2,.slice A c.data.length C,.int .i64 c.ex] 32 (0,0))/\BsS w (Ku p w) (.slice A c.data.length C) c.data
def RspAt(p:Nat)(w:World)(g:Nat)(d:List UInt8)(st:Int):Prop:=∃A C,w.heap[g]?=some (.cells #[.slice A d.length C,.int .i64 st] 45 (0,0))/\BsS w (Ku p w) (.slice A d.length C) d
theorem Vu{v:Value}{k:Int}(hv:∀x,v≠U8 x):noB #[v,.int .i64 k]:=by
 intro i x
 rcases i with _|_|i
 ·simpa using hv x
 ·simp
 ·simp
section
variable {B p n g g' k:Nat} {w w':World} {k1 k2 d:List UInt8} {m st:Int} {c:Cm}
theorem BsS.offD{v:Value}{l:List UInt8}(h:Bs w w.heap.size v l)(hd:Die B w p n):BsS w (Ku p w) v l:=by
 obtain⟨u,at_,_,hr,hI,_⟩:=hd
 obtain⟨a,cc,rfl,_⟩:=hI
 exact BsS.keep (BsS.off h hr (Vu (by simp))) fun b hs hl=>⟨rfl,hl,hs.2⟩
theorem SesAt.roll(h:SesAt p w g k1 k2 m)(hd:DiePost B w p n w')(hg:g≠p):SesAt p w' g k1 k2 m:=by
 obtain⟨A,c,A',c',hr,h1,h2⟩:=h
 exact⟨A,c,A',c',(hd.blk (iG hr) hg).trans hr,h1.rollO hd,h2.rollO hd⟩
theorem CmdAt.roll(h:CmdAt p w g c)(hd:DiePost B w p n w')(hg:g≠p):CmdAt p w' g c:=by
 obtain⟨A,C,hr,h1⟩:=h
 exact⟨A,C,(hd.blk (iG hr) hg).trans hr,h1.rollO hd⟩
theorem RspAt.roll(h:RspAt p w g d st)(hd:DiePost B w p n w')(hg:g≠p):RspAt p w' g d st:=by
 obtain⟨A,C,hr,h1⟩:=h
 exact⟨A,C,(hd.blk (iG hr) hg).trans hr,h1.rollO hd⟩
theorem SesAt.other3{j1 j2:List UInt8}{x:Int}(h:SesAt p w g k1 k2 m)(hc:SesAt p w g' j1 j2 x)(hne:g≠g')(x0 x1 x2:Value):SesAt p (set3 w g' x0 x1 x2) g k1 k2 m:=by
 obtain⟨A,c,A',c',hr,h1,h2⟩:=h
 obtain⟨_,_,_,_,hr',_⟩:=hc
 exact⟨A,c,A',c',(jr hne).trans hr,qT h1 hr' K2 _ _ _,qT h2 hr' K2 _ _ _⟩
theorem SesAt.fill{x0 x1 x2:Value}{A A':Option Addr}{c c':Nat}(hr:w.heap[g]?=some (.cells #[x0,x1,x2] 29 (0,0)))(hn:noB #[x0,x1,x2]) (h1:BsS w (Ku p w) (.slice A k1.length c) k1) (h2:BsS w (Ku p w) (.slice A' k2.length c') k2):
 SesAt p (set3 w g (.slice A k1.length c) (.slice A' k2.length c') (.int .i64 m)) g k1 k2 m:=⟨A,c,A',c',kG _ _ _ hr,qT h1 hr hn _ _ _,qT h2 hr hn _ _ _⟩
theorem SesAt.setN(h:SesAt p w g k1 k2 m)(x:Int):SesAt p (w.setCell ⟨g,2,none⟩ (.int .i64 x)) g k1 k2 x:=by
 obtain⟨A,c,A',c',hr,h1,h2⟩:=h
 exact⟨A,c,A',c',jb (o:=2) hr,h1.setO hr K2 _,h2.setO hr K2 _⟩
theorem BsS.lo{v:Value}{l:List UInt8}(h:BsS w (Ku p w) v l):BsS w (·<w.heap.size) v l:=h.keep fun _ hs _=>⟨rfl,hs.1⟩
end
theorem XV{w w':World}{b:Nat}(h:w'.heap[b]?=w.heap[b]?) (o:Nat):w'.cell? ⟨b,o,none⟩=w.cell? ⟨b,o,none⟩:=by simp [World.cell?,h]
theorem Ug{w:World}{base g cap n:Nat}{l:List UInt8}(h:OwnB w base (.slice (some ⟨g,0,none⟩) n cap) l)(i:Nat)(u:UInt8):OwnB (w.setCell ⟨g,i,none⟩ (U8 u)) base (.slice (some ⟨g,0,none⟩) n cap) (l.set i u):=by
 have hl:(l.set i u).length=l.length:=by simp
 unfold OwnB at h |-
 rw [hl,List.map_set]
 obtain⟨h1,h2⟩:=h
 refine⟨by simpa using h1,?_⟩
 rcases h2 with ⟨h2,_⟩|⟨g',cap',cur,hv,hb,hh,hn,hm,hs,ht⟩
 ·cases h2
 ·injection hv with e1 e2 e3
  injection e1 with e1
  injection e1 with e1 _
  subst e1 e3
  refine .inr ⟨g,cap,cur.setIfInBounds i (U8 u),by rw [e2],hb,?_,hn,hm,by simpa using hs,?_⟩
  ·show(w.heap.modify g _)[g]?=_
   rw [Array.getElem?_modify,iT rfl,hh]
   rfl
  ·rw [Array.toList_setIfInBounds,List.take_set,ht]
theorem Xn{w:World}{base g k:Nat}{v u:Value}{l:List UInt8}(h:OwnB w base v l)(hg:g<base):OwnB (w.setCell ⟨g,k,none⟩ u) base v l:=by
 obtain⟨h1,h2⟩:=h
 refine⟨by simpa using h1,?_⟩
 rcases h2 with h2|⟨g',cap',cur,hv,hb,hh,r⟩
 ·exact .inl h2
 ·exact .inr ⟨g',cap',cur,hv,hb,(iO (by show g'≠g;omega)).trans hh,r⟩
theorem j0x{w:World}{base g c n:Nat}{l:List UInt8}(h:OwnB w base (.slice (some ⟨g,0,none⟩) n c) l){i:Nat}(hi:i<l.length):w.cell? ⟨g,i,none⟩=some (U8 (gb l i))/\w.frozen? ⟨g,i,none⟩=false:=by
 obtain⟨_,_,hv⟩:=h.form
 injection hv with _ e2 _
 subst e2
 obtain⟨g',ha,_,_,_,_,hc,hf⟩:=h.slot (by omega)
 injection ha with ha
 injection ha with ha _
 subst ha
 exact⟨hc i hi,hf i⟩
theorem UT{w:World}{g c n:Nat}{l:List UInt8}(h:OwnB w g (.slice (some ⟨g,0,none⟩) n c) l)(hl:l.length<=140737488355328):Bs w w.heap.size (.slice (some ⟨g,0,none⟩) n c) l:=
 (h.out (w:=w) hl {w with heap:=(w.heap.take g)} (by simp;omega)).keep fun b hs hl=>⟨rfl,hl⟩
theorem Jz{ops:Array Oper}{rest:List Oper}{o:Oper}{a:Act}{w:World}{Q:Exit->Act->World->Prop}(hgd:o.guard=none)(x:Operand)(ho:o.op=.makeSlice 23 x x)
 (L:Int) (n:Nat) (hx:a.eval x=.int .i64 L) (hL:L=n) (hn:n<=1000000)
 (h:∀w',OwnB w' w.heap.size (.slice (some ⟨w.heap.size,0,none⟩) n n) (List.replicate n 0)->Below w.heap.size w w'->wpList Try.prog ops Q rest (a.put o.dst (.slice (some ⟨w.heap.size,0,none⟩) n n)) w'):wpList Try.prog ops Q (o :: rest) a w:=by
 obtain⟨i,hinfo,hzz⟩:=Option.map_eq_some_iff.1 qw
 simp only [Prod.mk.injEq]at hzz
 obtain⟨hz,hsize,hbb⟩:=hzz
 refine wpList_make_full w hgd x x 23 ho w.heap.size 5 i _ 1 Try.underlying23 hinfo hz hsize .i64 .i64 L L n hx hx hL hL (by rw [hbb];omega) (by unfold maxLen;omega) iL fun w' h1 h2=>h w' ?_ ⟨h2.os,h2.tape,h2.output,h2.size,fun k hk=>h2.block k hk (by simp)⟩
 rw [zw]at h1
 unfold OwnB
 simpa using h1
theorem SesAt.keepB{p g g5:Nat}{w w':World}{k1 k2:List UInt8}{m:Int}(h:SesAt p w g k1 k2 m)(hz:w.heap.size<=g5)(hb:Below g5 w w'):SesAt p w' g k1 k2 m:=by
 obtain⟨A,c,A',c',hr,h1,h2⟩:=h
 have hl:=(iG hr)
 exact⟨A,c,A',c',(hb.block g (by omega)).trans hr,h1.keep fun b hs hl=>⟨hb.block b (by omega),iZ hl hb.size,hs.2⟩,h2.keep fun b hs hl=>⟨hb.block b (by omega),iZ hl hb.size,hs.2⟩⟩
theorem Ue{t:Int}{V V':List UInt8}(h:V.length=V'.length)(ht:jV t=false):(k9 t V).enc.length=(k9 t V').enc.length:=by
 unfold k9
 by_cases h0:V= []
 ·have h1:V'= []:=List.eq_nil_of_length_eq_zero (by rw [<-h,h0]<;>rfl)
  rw [iT h0,iT h1]
 ·have h1:¬V'= []:=fun e=>h0 (List.eq_nil_of_length_eq_zero (by rw [h,e]<;>rfl))
  rw [iF h0,iF h1]
  simp [Ns.enc,ht,h]
theorem YC{k N k' N' d d':List UInt8}(h:d.length=d'.length):(xq k N d).length=(xq k' N' d').length:=by
 unfold xq
 by_cases h0:d= []
 ·have h1:d'= []:=List.eq_nil_of_length_eq_zero (by rw [<-h,h0]<;>rfl)
  rw [iT h0,iT h1]
 ·have h1:¬d'= []:=fun e=>h0 (List.eq_nil_of_length_eq_zero (by rw [h,e]<;>rfl))
  rw [iF h0,iF h1]
  simp only [List.length_cons,ZN,h]
theorem yw{k1 k2:List UInt8}{n:Int}{c:Cm}(h1:vS k1 k2 n=true)(hc:QZ c)(hn:n≠1099511627776):
 ∃b,qm k1 k2 n c=(0,⟨c.cl+12,c.ins,c.p1,c.p2,b,65536⟩,k1,k2,n+1)/\qb k2 (xF (n+1)) (xh (c.cl+12) c.ins c.p1 c.p2) ((j6 k1 (xF (n+1)) c.data).app (x6 c.ex))=.ok b/\b.length=(k9 135 (xq k1 (xF (n+1)) c.data)).enc.length+((k9 151 (exV c.ex)).enc.length+10):=by
 have hs:=of_decide_eq_true h1
 obtain⟨q1,q2,q3,q4,q5,q6⟩:=hc
 have hv:vC c=true:=decide_eq_true ⟨by omega,by omega,q2,q3,q4,by omega,q6⟩
 have hg:yE c.cl=true:=by rcases q1 with h|h|h<;>rw [h]<;>rfl
 have hV:(xq k1 (xF (n+1)) c.data).length<=4000:=by
  unfold xq
  split
  ·simp
  ·rw [List.length_cons,ZN]
   have:=kP c.data.length
   omega
 have hM:(exV c.ex).length<=2:=by
  rcases Qi c.ex q6 with ⟨h,_⟩|⟨_,h,_⟩
  ·rw [h];simp
  ·exact h
 obtain⟨b,hb,hl⟩:=Jt (N:=xF (n+1)) (head:=xh (c.cl+12) c.ins c.p1 c.p2) (tg:=151) hs.2.1 (by decide) (by decide) (by decide) hV hM
 refine⟨b,?_,by rw [kI,zL];exact hb,hl⟩
 unfold qm
 rw [iF (by rw [h1];simp),iF (by rw [hv];simp),iF (by rw [hg];simp),iF hn,kI,zL,hb]
theorem Kt{k1 k2 j1 j2:List UInt8}{n m:Int}{c d:Cm}(h1:vS k1 k2 n=true)(h2:vS j1 j2 m=true)(hc:QZ c)(hd:QZ d)(hn:n≠1099511627776)(hm:m≠1099511627776)(hl:c.data.length=d.data.length)(he:c.ex=d.ex):
 ∃b b':List UInt8,qm k1 k2 n c=(0,⟨c.cl+12,c.ins,c.p1,c.p2,b,65536⟩,k1,k2,n+1)/\qm j1 j2 m d=(0,⟨d.cl+12,d.ins,d.p1,d.p2,b',65536⟩,j1,j2,m+1)/\b.length=b'.length:=by
 obtain⟨b,e1,_,l1⟩:=yw h1 hc hn
 obtain⟨b',e2,_,l2⟩:=yw h2 hd hm
 exact⟨b,b',e1,e2,by rw [l1,l2,he,Ue (YC hl) (by decide)]⟩
end Go.Proofs.Ytadndhgebgjlaaa
