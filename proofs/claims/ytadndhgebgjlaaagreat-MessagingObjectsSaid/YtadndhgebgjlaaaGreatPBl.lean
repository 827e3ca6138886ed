/- made.Dice: Exactly; made.Dice: Session; words for what the dice make; made.Dice: Command; made.Dice: Response, OddCommand, OddSession; Words: sessions, comma... -/
import Derived.Test.YtadndhgebgjlaaaGreatPBk
import Derived.Test.YtadndhgebgjlaaaGreatPw
set_option linter.all false
set_option maxRecDepth 100000
set_option maxHeartbeats 8000000
namespace Go.Proofs.YtadndhgebgjlaaaGreat
open Go.RowKit Go.Deep
theorem mx{P:Prop}(h:P:=by
 go_simp
 refine hK _ _ hJ (World.grownBy.refl _ _) ?_
 first|exact rfl|exact j5 _):P:=h
theorem mX{P:Prop}(h:P:=by
 go_simp
 refine(ke B p n 256 w1 hJ.1 (by decide) (by decide)).mono ?_
 rintro e w5 ⟨z,rfl,hz,hd⟩
 exact hK _ _ (hJ.trans hd) hd.2 ⟨z,rfl,hz⟩):P:=h
theorem m04{P:Prop}(h:P:=by
 exact⟨_,cell_of_row _ _ _ _ _ _ h,by decide,by decide⟩):P:=h
theorem m0k{P:Prop}(h:P:=by
 have R7:Hid (w7.heap[w.heap.size]?=some (.cells #[.slice none 0 0,.slice none 0 0,.int .i64 0] 29 (0,0))):=iH ((K7.out _ (by omega) (by omega)).trans ((B4.out.block _ (by omega)).trans R3.out))
 have X1:Hid (BsS w7 (Btw (w.heap.size+1) w3.heap.size) (.slice A1 16 c1) k1):=iH ((V13.out.wide (by omega) iL).fix fun b h1 h2=>(K7.out b (by omega) (by omega)).trans (B4.out.block b h2))
 have X2:Hid (BsS w7 (Btw (w.heap.size+1) w3.heap.size) (.slice A2 16 c2) k2):=iH ((V23.out.wide (by omega) iL).fix fun b h1 h2=>(K7.out b (by omega) (by omega)).trans (B4.out.block b h2))
 have hz7:w7.heap[w.heap.size]?=some (.cells #[.slice none 0 0,.slice none 0 0,.int .i64 0] 29 (0,0)):=R7.out
 obtain⟨q0,q1,q2,_⟩:=j7 T7.out
 obtain⟨z0,z1,z2,zf⟩:=j7 hz7
 have zf0:=zf 0;have zf1:=zf 1;have zf2:=zf 2
 obtain⟨y0,y1,y2,_⟩:=j7 (qa (.slice A1 16 c1) (.slice A2 16 c2) (.int .i64 M) R7.out)
 clear hz7 zf
 go_wp2_with fail
 refine bodyPost_ret (v:=.agg #[.slice A1 16 c1,.slice A2 16 c2,.int .i64 M]) (by simp only [set3]at y0 y1 y2;simp [results,Tryz.results10,go_sem,y0,y1,y2]) rfl ?_
 exact YI (hi:=w3.heap.size) (P:=fun k1 k2 m=>vS k1 k2 m=true) hBw X1.out X2.out (decide_eq_true ⟨L1.out,L2.out,M0,M1⟩) D7.out):P:=h
theorem m2s{P:Prop}(h:P:=by
 go_simp
 exact hK _ _ (hJ.alloc _) (jT (World.grownBy.refl _ _) _) ⟨_,rfl,by have:=HPB.out;have:=hJ.2.size;omega,hJ.2.size,iN⟩):P:=h
theorem m3t{P:Prop}(h:P:=by
 obtain⟨A,C,hr,h1⟩:=h
 exact⟨A,C,(hd.blk (iG hr) hg).trans hr,h1.rollO hd⟩):P:=h
theorem m41{P:Prop}(h:P:=by
 obtain⟨A,C,hr,h1⟩:=h
 exact⟨A,C,(iO hne).trans hr,h1.setO hr' hn _⟩):P:=h
theorem Zu(B p n m:Nat)(w:World)(h:Die B w p n)(hm:m<=100000):
 Calls Tryz.prog 26 #[.pointer (some ⟨p,0,none⟩),.int .i64 m] w fun e w'=>∃v l,e=.returned v/\BsS w' (New w w') v l/\l.length=m/\DiePost B w p n w':=by
 have H0:=iH (DRow.start h)
 clear h
 go_enter Tryz.func26,Tryz.ntmps26
 go_wp2_with fail
 go_loopg [5,6] m (fun q o i wr=>∃l:List UInt8,l.length+q=m/\i=.int .i64 l.length/\DRow B w wr p n o l)
 case atStart=>exact⟨[],by simp,rfl,H0.out⟩
 case round=>
  obtain⟨l,hl,rfl,hR⟩:=hrel
  obtain⟨oa,oc,rfl⟩:=hR.own.form
  have HR:=iH hR
  clear hR
  by_cases hq:gk=0
  ·subst hq
   have hlm:¬(l.length:Int)<m:=by omega
   go_wp2_with fail
   go_ret
   exact⟨_,rfl,l,HR.out.own.out (by omega) w iL,by omega,HR.out.2.1⟩
  ·have hq1:0<gk:=by omega
   have hlm:(l.length:Int)<m:=by omega
   clear hq
   go_wp2_with(first
    |(at_builtin;(with_reducible refine yI rfl (.tmp 12) (.tmp 16) rfl w.heap.size (.slice oa l.length oc) l rfl HR2.out.own (z:Int) (by omega) (by omega) _ w2.heap.size rfl rfl (by omega) HR2.out.size ?_);intro v3 w3 hgr;have H3:=iH (HR2.out.grew hgr);clear hgr)
    |(go_at_call 15;refine(ke B p n _ _ HR.out.die (by decide) (by decide)).mono ?_;rintro e w2 ⟨z,rfl,hz,hd⟩;have HR2:=iH (HR.out.call hd);clear hd))
   go_roundg (gk - 1)
   case measure=>omega
   case rel=>exact⟨_,by simp;omega,by simp,H3.out⟩
section
variable{B:Nat}
include B
theorem DiePost.refl{w:World}{p n:Nat}(h:Die B w p n):DiePost B w p n w:=⟨h,World.grownBy.refl _ _⟩
theorem DiePost.alloc{w w1:World}{p n:Nat}(h:DiePost B w p n w1)(o:Obj):DiePost B w p n (w1.alloc o):=⟨h.1.alloc o,jT h.2 o⟩
theorem DiePost.drew{w w1:World}{p n:Nat}(h:DiePost B w p n w1):DiePost B w p n w1.drew:=⟨h.1.keep iL fun _ _=>rfl,km h.2⟩
theorem DiePost.set{w w1:World}{p n g k:Nat}(h:DiePost B w p n w1)(hB:B<=w.heap.size)(hg:w.heap.size<=g)(u:Value):DiePost B w p n (w1.setCell ⟨g,k,none⟩ u):=
 ⟨h.1.keep (by simp) fun b hb=>iO (by show b≠g;omega),j2z h.2 (jb (World.grownBy.refl _ _) (.inl rfl) _) hg⟩
theorem DiePost.below{w w1 w2:World}{p n:Nat}(h:DiePost B w p n w1)(hb:Below w1.heap.size w1 w2):DiePost B w p n w2:=
 ⟨h.1.below (hb.mono h.1.le),kr h.2 (jD hb _)⟩
theorem DiePost.blk{w w1:World}{p n k:Nat}(h:DiePost B w p n w1)(hk:k<w.heap.size)(hp:k≠p):w1.heap[k]?=w.heap[k]? :=h.2.block k hk fun e=>by injection e with e;exact hp e
theorem DiePost.set3{w w1:World}{p n g:Nat}(h:DiePost B w p n w1)(hB:B<=w.heap.size)(hg:w.heap.size<=g)(a b c:Value):DiePost B w p n (set3 w1 g a b c):=((h.set hB hg a).set hB hg b).set hB hg c
end
def Btw(lo hi:Nat):Nat->Prop:=fun g=>lo<=g/\g<hi
theorem BsS.btw{w w1:World}{v:Value}{l:List UInt8}(h:BsS w1 (New w w1) v l){lo:Nat}(hl:lo<=w.heap.size):BsS w1 (Btw lo w1.heap.size) v l:=h.keep fun b hs _=>⟨rfl,by have:=hs.1;omega,hs.2⟩
theorem BsS.roll{B:Nat}{w1 w2:World}{p n lo hi:Nat}{v:Value}{l:List UInt8}(h:BsS w1 (Btw lo hi) v l)(hd:DiePost B w1 p n w2)(hp:p<lo):BsS w2 (Btw lo w2.heap.size) v l:=
 h.keep fun b hs hl=>⟨hd.blk hl (by have:=hs.1;omega),hs.1,iZ hl hd.2.size⟩
theorem BsS.fix{w1 w2:World}{lo hi:Nat}{v:Value}{l:List UInt8}(h:BsS w1 (Btw lo hi) v l)(hk:∀b,lo<=b->b<hi->w2.heap[b]?=w1.heap[b]?):BsS w2 (Btw lo hi) v l:=h.keep fun b hs _=>⟨hk b hs.1 hs.2,hs⟩
theorem BsS.wide{w1:World}{lo hi lo' hi':Nat}{v:Value}{l:List UInt8}(h:BsS w1 (Btw lo hi) v l)(h1:lo'<=lo)(h2:hi<=hi'):BsS w1 (Btw lo' hi') v l:=h.keep fun b hs _=>⟨rfl,by have:=hs.1;omega,by have:=hs.2;omega⟩
theorem Vr(B p n:Nat)(w:World)(h:Die B w p n):
 Calls Tryz.prog 26 #[.pointer (some ⟨p,0,none⟩),.int .i64 16] w fun e w'=>∃v l,e=.returned v/\BsS w' (New w w') v l/\l.length=16/\DiePost B w p n w':=Zu B p n 16 w h (by decide)
def j3z(B:Nat)(w:World)(p n:Nat)(P:List UInt8->List UInt8->Int->Prop)(e:Ending)(w':World):Prop:=∃v k1 k2 m,e=.returned v/\qs w' (New w w') v k1 k2 m/\P k1 k2 m/\DiePost B w p n w'
theorem YI{B p n hi:Nat}{w w7:World}{a b:Value}{k1 k2:List UInt8}{m:Int}{P:List UInt8->List UInt8->Int->Prop}(hB:B<=w.heap.size)(ha:BsS w7 (Btw (w.heap.size+1) hi) a k1)(hb:BsS w7 (Btw (w.heap.size+1) hi) b k2)(hv:P k1 k2 m)(hd:DiePost B w p n w7):
 j3z B w p n P (.returned (.agg #[a,b,.int .i64 m])) (set3 w7 w.heap.size a b (.int .i64 m)):=by
 have key:∀ {v:Value} {l:List UInt8},BsS w7 (Btw (w.heap.size+1) hi) v l->BsS (set3 w7 w.heap.size a b (.int .i64 m)) (New w (set3 w7 w.heap.size a b (.int .i64 m))) v l:=fun h=>
  h.keep fun g hs hl=>⟨jC (by have:=hs.1;omega),by have:=hs.1;omega,by simpa [Go.Proofs.YtadndhgebgjlaaaGreat.set3]using hl⟩
 exact⟨_,k1,k2,m,rfl,⟨a,b,rfl,key ha,key hb⟩,hv,hd.set3 hB iL _ _ _⟩
theorem Xl(B p n:Nat)(w:World)(h:Die B w p n):Calls Tryz.prog 10 #[.pointer (some ⟨p,0,none⟩)] w (j3z B w p n fun k1 k2 m=>vS k1 k2 m=true):=by
 obtain⟨w0,hw0⟩:∃w0,w0=w.alloc (.cells #[.slice none 0 0,.slice none 0 0,.int .i64 0] 29):=⟨_,rfl⟩
 have D0:Hid (DiePost B w p n w0):=iH (by rw [hw0];exact(DiePost.refl h).alloc _)
 have R0:Hid (w0.heap[w.heap.size]?=some (.cells #[.slice none 0 0,.slice none 0 0,.int .i64 0] 29 (0,0))):=iH (by rw [hw0];exact iN)
 have z0:w0.heap.size=w.heap.size+1:=by rw [hw0];simp
 have HW0:=iH hw0
 have hBw:=h.le
 have hpB:=h.lt
 clear h hw0
 go_enter Tryz.func10,Tryz.ntmps10
 go_upto_region 1 with fail
 rw [<-HW0.out]
 go_upto_region 2 with (first
  |(go_at_call 15;refine(ke B p n 1048576 w2 D2.out.1 (by decide) (by decide)).mono ?_;rintro e w3 ⟨z,rfl,hz,hd⟩;have D3:=iH (D2.out.trans hd);have V13:=iH (V12.out.roll hd (by omega));have R3:=iH ((hd.blk (k:=w.heap.size) (by omega) (by omega)).trans R2.out);have V23:=iH (V22.out.roll hd (by omega));have z3:=hd.2.size;clear hd)
  |(go_at_call 26;refine(Vr B p n w1 D1.out.1).mono ?_;rintro e w2 ⟨v2,k2,rfl,hv,hl2,hd⟩;obtain⟨A2,c2,hp⟩:=Bs.formL hv;rw [hl2]at hp;subst hp;have L2:=iH hl2;have D2:=iH (D1.out.trans hd);have V12:=iH (V11.out.roll hd (by omega));have R2:=iH ((hd.blk (k:=w.heap.size) (by omega) (by omega)).trans R1.out);have V22:=iH (hv.btw (lo:=w0.heap.size) (by omega));have z2:=hd.2.size;clear hd hv hl2)
  |(go_at_call 26;refine(Vr B p n w0 D0.out.1).mono ?_;rintro e w1 ⟨v1,k1,rfl,hv,hl1,hd⟩;obtain⟨A1,c1,hp⟩:=Bs.formL hv;rw [hl1]at hp;subst hp;have L1:=iH hl1;have D1:=iH (D0.out.trans hd);have V11:=iH (hv.btw (lo:=w0.heap.size) (by omega));have R1:=iH ((hd.blk (k:=w.heap.size) (by omega) (by omega)).trans R0.out);have z1:=hd.2.size;clear hd hv hl1))
 obtain⟨w4,hw4⟩:∃w4,w4=w3.alloc (.cells #[.slice A1 16 c1,.slice A2 16 c2,.int .i64 z] 29):=⟨_,rfl⟩
 rw [<-hw4]
 have D4:Hid (DiePost B w p n w4):=iH (by rw [hw4];exact D3.out.alloc _)
 have B4:Hid (Below w3.heap.size w3 w4):=iH (by rw [hw4];exact iA)
 have R4:Hid (w4.heap[w3.heap.size]?=some (.cells #[.slice A1 16 c1,.slice A2 16 c2,.int .i64 z] 29 (0,0))):=iH (by rw [hw4];exact iN)
 have z4:w4.heap.size=w3.heap.size+1:=by rw [hw4];simp
 clear hw4
 go_upto_if 12 with (go_at_call 12;refine(Qx B p n 9 w4 D4.out.1 (by decide) (by decide)).mono ?_;rintro e w5 ⟨b5,rfl,hd⟩;have D5:=iH hd;clear hd)
 cases b5
 ·obtain⟨w7,hw7⟩:∃w7,w7=w5:=⟨_,rfl⟩
  rw [<-hw7]
  obtain⟨M,hM⟩:∃M:Int,M=z:=⟨_,rfl⟩
  have D7:Hid (DiePost B w p n w7):=iH (by rw [hw7];exact D4.out.trans D5.out)
  have K7:Hid (∀b,b<w4.heap.size->b≠p->w7.heap[b]?=w4.heap[b]?):=iH (by rw [hw7];exact fun b h1 h2=>D5.out.blk h1 h2)
  have T7:Hid (w7.heap[w3.heap.size]?=some (.cells #[.slice A1 16 c1,.slice A2 16 c2,.int .i64 M] 29 (0,0))):=iH ((K7.out _ (by omega) (by omega)).trans (by rw [hM];exact R4.out))
  have M0:0<=M:=by omega
  have M1:M<=1099511627776:=by omega
  clear hw7 hM
  exact m0k
 ·obtain⟨r0,r1,r2,rf⟩:=j7 ((D5.out.blk (k:=w3.heap.size) (by omega) (by omega)).trans R4.out)
  have rf2:=rf 2
  clear rf
  go_upto_region 4 with (go_at_call 15;refine(ke B p n 3 w5 D5.out.1 (by decide) (by decide)).mono ?_;rintro e w6 ⟨z6,rfl,hz6,hd⟩;have D6:=iH (D5.out.trans hd);obtain⟨u0,u1,u2,uf⟩:=j7 ((D6.out.blk (k:=w3.heap.size) (by omega) (by omega)).trans R4.out);have uf2:=uf 2;clear uf hd r0 r1 r2 rf2)
  obtain⟨M,hM⟩:∃M:Int,M=1099511627776 - z6:=⟨_,rfl⟩
  rw [<-hM]
  obtain⟨w7,hw7⟩:∃w7,w7=w6.setCell ⟨w3.heap.size,2,none⟩ (.int .i64 M):=⟨_,rfl⟩
  rw [<-hw7]
  have D7:Hid (DiePost B w p n w7):=iH (by rw [hw7];exact(D4.out.trans D6.out).set hBw (by omega) _)
  have K7:Hid (∀b,b<w3.heap.size->b≠p->w7.heap[b]?=w4.heap[b]?):=iH (by rw [hw7];exact fun b h1 h2=>(iO (by show b≠w3.heap.size;omega)).trans (D6.out.blk (by omega) h2))
  have T7:Hid (w7.heap[w3.heap.size]?=some (.cells #[.slice A1 16 c1,.slice A2 16 c2,.int .i64 M] 29 (0,0))):=iH (by rw [hw7];exact jg (o:=2) ((D6.out.blk (k:=w3.heap.size) (by omega) (by omega)).trans R4.out))
  have M0:0<=M:=by omega
  have M1:M<=1099511627776:=by omega
  clear hw7 hM u0 u1 u2 uf2
  exact m0k
theorem DiePost.set6{B:Nat}{w w1:World}{p n g:Nat}(h:DiePost B w p n w1)(hB:B<=w.heap.size)(hg:w.heap.size<=g)(a b c d e f:Value):DiePost B w p n (set6 w1 g a b c d e f):=(((((h.set hB hg a).set hB hg b).set hB hg c).set hB hg d).set hB hg e).set hB hg f
theorem j77{w1 w2:World}{p k:Nat}(h:w1.grownBy w2 (some p))(hk:k<w1.heap.size)(hp:k≠p):w2.heap[k]?=w1.heap[k]? :=h.block k hk fun e=>by injection e with e;exact hp e
theorem BsS.rollG{w1 w2:World}{p lo hi:Nat}{v:Value}{l:List UInt8}(h:BsS w1 (Btw lo hi) v l)(hd:w1.grownBy w2 (some p))(hp:p<lo):BsS w2 (Btw lo w2.heap.size) v l:=
 h.keep fun b hs hl=>⟨j77 hd hl (by have:=hs.1;omega),hs.1,iZ hl hd.size⟩
theorem j7h{w:World}{g z:Nat}{t:TypeId}(h:w.heap[g]?=some (.cells #[.int .i64 0,.int .i64 0,.int .i64 0,.int .i64 128,.int .i64 224] t (0,0)))(hz:(z:Int)<5):∃q:Int,w.cell? ⟨g,z,none⟩=some (.int .i64 q)/\(q=0\/q=128\/q=224):=by
 rcases(by omega:z=0\/z=1\/z=2\/z=3\/z=4)with rfl|rfl|rfl|rfl|rfl<;>exact⟨_,cell_of_row _ _ _ _ _ _ h,by decide⟩
def j3u(B:Nat)(w:World)(p n:Nat)(P:Cm->Prop)(e:Ending)(w':World):Prop:=∃v c,e=.returned v/\Jm w' (New w w') v c/\P c/\DiePost B w p n w'
def j7m(c:Cm):Prop:=(c.cl=0\/c.cl=128\/c.cl=224)/\(0<=c.ins/\c.ins<=255)/\(0<=c.p1/\c.p1<=255)/\(0<=c.p2/\c.p2<=255)/\c.data.length<=3000/\(c.ex= -1\/(1<=c.ex/\c.ex<=65536))
def CSt(B p n:Nat)(w:World)(g:Nat)(q z1 z2 z3:Int)(A:Option Addr)(C:Nat)(L:List UInt8)(ex:Int)(wx:World):Prop:=
 DiePost B w p n wx/\wx.heap[g]?=some (.cells #[.int .i64 q,.int .i64 z1,.int .i64 z2,.int .i64 z3,.slice A L.length C,.int .i64 ex] 32 (0,0))/\wx.heap[w.heap.size]?=some (.cells #[.int .i64 0,.int .i64 0,.int .i64 0,.int .i64 0,.slice none 0 0,.int .i64 0] 32 (0,0))/\BsS wx (Btw (w.heap.size+1) wx.heap.size) (.slice A L.length C) L/\L.length<=4100
section
variable {B p n g:Nat} {w wx wy:World} {q z1 z2 z3 ex:Int} {A:Option Addr} {C:Nat} {L:List UInt8}
section
variable(h:CSt B p n w g q z1 z2 z3 A C L ex wx)
include h
theorem CSt.die:Die B wx p n:=h.1.1
theorem CSt.row:wx.heap[g]?=some (.cells #[.int .i64 q,.int .i64 z1,.int .i64 z2,.int .i64 z3,.slice A L.length C,.int .i64 ex] 32 (0,0)):=h.2.1
theorem CSt.lt:w.heap.size<wx.heap.size/\g<wx.heap.size:=⟨(iG h.2.2.1),(iG h.2.1)⟩
theorem CSt.roll(hd:DiePost B wx p n wy)(hp:p<w.heap.size)(hg:w.heap.size<g):CSt B p n w g q z1 z2 z3 A C L ex wy:=
 ⟨h.1.trans hd,(hd.blk h.lt.2 (by omega)).trans h.2.1,(hd.blk h.lt.1 (by omega)).trans h.2.2.1,h.2.2.2.1.roll hd (by omega),h.2.2.2.2⟩
theorem CSt.below(hb:Below wx.heap.size wx wy)(hp:p<w.heap.size)(hg:w.heap.size<g):CSt B p n w g q z1 z2 z3 A C L ex wy:=
 h.roll (DiePost.below (DiePost.refl h.die) hb) hp hg
theorem CSt.alloc(hp:p<w.heap.size)(hg:w.heap.size<g)(o:Obj):CSt B p n w g q z1 z2 z3 A C L ex (wx.alloc o):=
 h.roll ((DiePost.refl h.die).alloc o) hp hg
section
variable(hB:B<=w.heap.size)
include hB
theorem CSt.data(hg:w.heap.size<g){A2:Option Addr}{C2:Nat}{M:List UInt8}(hv:BsS wx (Btw (w.heap.size+1) wx.heap.size) (.slice A2 M.length C2) M)(hl:M.length<=4100){D:Value}(hD:D=.slice A2 M.length C2):
 CSt B p n w g q z1 z2 z3 A2 C2 M ex (wx.setCell ⟨g,4,none⟩ D):=by
 subst hD
 refine⟨h.1.set hB (by omega) _,jg (o:=4) h.row,(iO (by show w.heap.size≠g;omega)).trans h.2.2.1,?_,hl⟩
 exact BsS.keep (hv.off h.row ZB) fun b hs hl=>⟨iO hs.2,hs.1.1,by simpa using hl⟩
theorem CSt.exp(hg:w.heap.size<g)(x:Int):CSt B p n w g q z1 z2 z3 A C L x (wx.setCell ⟨g,5,none⟩ (.int .i64 x)):=by
 refine⟨h.1.set hB (by omega) _,jg (o:=5) h.row,(iO (by show w.heap.size≠g;omega)).trans h.2.2.1,?_,h.2.2.2.2⟩
 exact BsS.keep (h.2.2.2.1.off h.row ZB) fun b hs hl=>⟨iO hs.2,hs.1.1,by simpa using hl⟩
theorem CSt.done{P:Cm->Prop}(hP:P ⟨q,z1,z2,z3,L,ex⟩):
 j3u B w p n P (.returned (.agg #[.int .i64 q,.int .i64 z1,.int .i64 z2,.int .i64 z3,.slice A L.length C,.int .i64 ex])) (set6 wx w.heap.size (.int .i64 q) (.int .i64 z1) (.int .i64 z2) (.int .i64 z3) (.slice A L.length C) (.int .i64 ex)):=
 ⟨_,⟨q,z1,z2,z3,L,ex⟩,rfl,⟨_,rfl,h.2.2.2.1.keep fun b hs hl=>⟨jQ (by have:=hs.1;omega),by have:=hs.1;omega,by rw [qq];exact hl⟩⟩,hP,h.1.set6 hB iL _ _ _ _ _ _⟩
end
end
theorem CSt.start{w0 w1:World}{a:Option Addr}{c:Nat}{l:List UInt8}(hd:DiePost B w p n w1)(hB:B<=w.heap.size)(hg:w0.heap.size<=g)(h0:w0.heap[w.heap.size]?=some (.cells #[.int .i64 0,.int .i64 0,.int .i64 0,.int .i64 0,.slice none 0 0,.int .i64 0] 32 (0,0)))(hz:w0.heap.size=w.heap.size+1)(hj:DiePost B w0 p n w1)(hp:w.heap.size≠p){x0 x1 x2 x3 x4 x5:Value}(hr:w1.heap[g]?=some (.cells #[x0,x1,x2,x3,x4,x5] 32 (0,0)))(hn:noB #[x0,x1,x2,x3,x4,x5])(hb:BsS w1 (Btw (w.heap.size+1) w1.heap.size) (.slice a l.length c) l)(hl:l.length<=4100):
 CSt B p n w g q z1 z2 z3 a c l ex (set6 w1 g (.int .i64 q) (.int .i64 z1) (.int .i64 z2) (.int .i64 z3) (.slice a l.length c) (.int .i64 ex)):=by
 refine⟨hd.set6 hB (by omega) _ _ _ _ _ _,zz _ _ _ _ _ _ hr,(jQ (by omega)).trans ((hj.blk (by omega) hp).trans h0),?_,hl⟩
 exact BsS.keep (hb.off hr hn) fun b hs hl=>⟨jQ hs.2,hs.1.1,by rw [qq];exact hl⟩
end
theorem j7j{w:World}{g z:Nat}{t:TypeId}(h:w.heap[g]?=some (.cells #[.int .i64 255,.int .i64 256,.int .i64 300,.int .i64 3000] t (0,0)))(hz:(z:Int)<4):∃k:Nat,w.cell? ⟨g,z,none⟩=some (.int .i64 k)/\k<=3000:=by
 rcases(by omega:z=0\/z=1\/z=2\/z=3)with rfl|rfl|rfl|rfl
 ·exact⟨255,cell_of_row _ _ _ _ _ _ h,by decide⟩
 ·exact⟨256,cell_of_row _ _ _ _ _ _ h,by decide⟩
 ·exact⟨300,cell_of_row _ _ _ _ _ _ h,by decide⟩
 ·exact⟨3000,cell_of_row _ _ _ _ _ _ h,by decide⟩
theorem j7i{w:World}{g z:Nat}{t:TypeId}(h:w.heap[g]?=some (.cells #[.int .i64 1,.int .i64 8,.int .i64 255,.int .i64 256,.int .i64 257,.int .i64 65535,.int .i64 65536] t (0,0)))(hz:(z:Int)<7):∃k:Int,w.cell? ⟨g,z,none⟩=some (.int .i64 k)/\1<=k/\k<=65536:=by
 rcases(by omega:z=0\/z=1\/z=2\/z=3\/z=4\/z=5\/z=6)with rfl|rfl|rfl|rfl|rfl|rfl|rfl<;>exact⟨_,cell_of_row _ _ _ _ _ _ h,by decide,by decide⟩
theorem Xi(B p n:Nat)(w:World)(h:Die B w p n):Calls Tryz.prog 11 #[.pointer (some ⟨p,0,none⟩)] w (j3u B w p n j7m):=by
 obtain⟨w0,hw0⟩:∃w0,w0=w.alloc (.cells #[.int .i64 0,.int .i64 0,.int .i64 0,.int .i64 0,.slice none 0 0,.int .i64 0] 32):=⟨_,rfl⟩
 have D0:Hid (DiePost B w p n w0):=iH (by rw [hw0];exact(DiePost.refl h).alloc _)
 have R0:Hid (w0.heap[w.heap.size]?=some (.cells #[.int .i64 0,.int .i64 0,.int .i64 0,.int .i64 0,.slice none 0 0,.int .i64 0] 32 (0,0))):=iH (by rw [hw0];exact iN)
 have z0:w0.heap.size=w.heap.size+1:=by rw [hw0];simp
 have HW0:=iH hw0
 have hBw:=h.le
 have hpB:=h.lt
 have HPB:Hid (p<w0.heap.size):=iH (by omega)
 clear h hw0
 go_enter Tryz.func11,Tryz.ntmps11
 go_upto_region 1 with fail
 rw [<-HW0.out]
 refine jc 15 [some 4,some 5,some 6,some 7,some 8,some 9,some 10,some 11,some 12,some 13,some 14,some 15,some 16,some 17,some 3] [[],[],[1],[0,1,2],[0,1,2,3],[],[1,2,5],[],[1,2,5,6,7],[],[1,2,5,6,7,8,9],[],[1,2,5,6,7,8,9,10,11],[0,1,2,3,4,5,6,7,8,9,10,11,12],[]]
  (fun _ _ w1=>DiePost B w0 p n w1) (fun w1 w2=>w1.grownBy w2 (some p))
  [fun v w1=>∃g,v 0=.slice (some ⟨g,0,none⟩) 5 5/\g≠p/\w0.heap.size<=g/\w1.heap[g]?=some (.cells #[.int .i64 0,.int .i64 0,.int .i64 0,.int .i64 128,.int .i64 224] 3 (0,0)),
   fun v _=>v 1=.pointer (some ⟨p,0,none⟩),
   fun v w1=>∃z:Nat,v 2=.int .i64 z/\(z:Int)<5,
   fun v w1=>∃(g z:Nat),v 3=.pointer (some ⟨g,z,none⟩)/\(z:Int)<5/\g≠p/\w1.heap[g]?=some (.cells #[.int .i64 0,.int .i64 0,.int .i64 0,.int .i64 128,.int .i64 224] 3 (0,0)),
   fun v w1=>∃q:Int,v 4=.int .i64 q/\(q=0\/q=128\/q=224),
   fun v _=>v 5=.pointer (some ⟨p,0,none⟩),
   fun v w1=>∃z:Nat,v 6=.int .i64 z/\(z:Int)<256,
   fun v _=>v 7=.pointer (some ⟨p,0,none⟩),
   fun v w1=>∃z:Nat,v 8=.int .i64 z/\(z:Int)<256,
   fun v _=>v 9=.pointer (some ⟨p,0,none⟩),
   fun v w1=>∃z:Nat,v 10=.int .i64 z/\(z:Int)<256,
   fun v _=>v 11=.pointer (some ⟨p,0,none⟩),
   fun v w1=>∃(a:Option Addr) (c:Nat) (l:List UInt8),v 12=.slice a l.length c/\l.length<=40/\BsS w1 (Btw w0.heap.size w1.heap.size) (.slice a l.length c) l,
   fun v w1=>∃(q z1 z2 z3:Int) (a:Option Addr) (c:Nat) (l:List UInt8),v 13=.agg #[.int .i64 q,.int .i64 z1,.int .i64 z2,.int .i64 z3,.slice a l.length c,.int .i64 (-1)]/\(q=0\/q=128\/q=224)/\(0<=z1/\z1<=255)/\(0<=z2/\z2<=255)/\(0<=z3/\z3<=255)/\l.length<=40/\BsS w1 (Btw w0.heap.size w1.heap.size) (.slice a l.length c) l,
   fun v w1=>∃g,v 14=.pointer (some ⟨g,0,none⟩)/\g≠p/\w0.heap.size<=g/\w1.heap[g]?=some (.cells #[.int .i64 0,.int .i64 0,.int .i64 0,.int .i64 0,.slice none 0 0,.int .i64 0] 32 (0,0))]
  (by kernel_rfl) (by kernel_rfl) (fun _=>DiePost.drew (DiePost.refl D0.out.1)) ?st ?steps ?tail
 case st=>
  exact(.cons (fun _ _ _ _ _ hr ⟨g,e,hp,hg,h⟩=>⟨g,e,hp,hg,(j77 hr (iG h) hp).trans h⟩) (.cons (fun _ _ _ _ _ _ h=>h) (.cons (fun _ _ _ _ _ _ h=>h) (.cons (fun _ _ _ _ _ hr ⟨g,z,e,hz,hp,h⟩=>⟨g,z,e,hz,hp,(j77 hr (iG h) hp).trans h⟩) (.cons (fun _ _ _ _ _ _ h=>h) (.cons (fun _ _ _ _ _ _ h=>h) (.cons (fun _ _ _ _ _ _ h=>h) (.cons (fun _ _ _ _ _ _ h=>h) (.cons (fun _ _ _ _ _ _ h=>h) (.cons (fun _ _ _ _ _ _ h=>h) (.cons (fun _ _ _ _ _ _ h=>h) (.cons (fun _ _ _ _ _ _ h=>h) (.cons (fun _ _ _ _ _ hr ⟨a,c,l,e,hl,h⟩=>⟨a,c,l,e,hl,h.rollG hr (by have:=HPB.out;omega)⟩) (.cons (fun _ _ _ _ _ hr ⟨q,z1,z2,z3,a,c,l,e,hq,h1,h2,h3,hl,h⟩=>⟨q,z1,z2,z3,a,c,l,e,hq,h1,h2,h3,hl,h.rollG hr (by have:=HPB.out;omega)⟩) (.cons (fun _ _ _ _ _ hr ⟨g,e,hp,hg,h⟩=>⟨g,e,hp,hg,(j77 hr (iG h) hp).trans h⟩) .nil)))))))))))))))
 case steps=>
  simp only [List.take_succ_cons,List.take_zero]
  refine(.cons ?_ (.cons ?_ (.cons ?_ (.cons ?_ (.cons ?_ (.cons ?_ (.cons ?_ (.cons ?_ (.cons ?_ (.cons ?_ (.cons ?_ (.cons ?_ (.cons ?_ (.cons ?_ (.cons ?_ .nil)))))))))))))))
  all_goals(intro L v w1 hJ hL hA hF K hK;simp only [jf,Act.put,Nat.zero_add,Nat.reduceAdd,List.setIfInBounds_toArray,List.set_cons_zero,List.set_cons_succ]at hK |-)
  ·exact m2s
  ·exact mx
  ·have e1:v 1=_:=hF 1 (hA 1 (by simp))
   simp only [e1]at hK
   go_simp
   refine(ke B p n 5 w1 hJ.1 (by decide) (by decide)).mono ?_
   rintro e w5 ⟨z,rfl,hz,hd⟩
   exact hK _ _ (hJ.trans hd) hd.2 ⟨z,rfl,hz⟩
  ·obtain⟨g,e0,hp,hg,h0⟩:∃g,v 0=.slice (some ⟨g,0,none⟩) 5 5/\g≠p/\w0.heap.size<=g/\w1.heap[g]?=some (.cells #[.int .i64 0,.int .i64 0,.int .i64 0,.int .i64 128,.int .i64 224] 3 (0,0)):=hF 0 (hA 0 (by simp))
   obtain⟨z,e2,hz⟩:∃z:Nat,v 2=.int .i64 z/\(z:Int)<5:=hF 2 (hA 2 (by simp))
   simp only [e0,e2]at hK
   go_simp
   exact hK _ _ hJ (World.grownBy.refl _ _) ⟨g,z,rfl,hz,hp,h0⟩
  ·obtain⟨g,z,e3,hz,hp,h0⟩:∃(g z:Nat),v 3=.pointer (some ⟨g,z,none⟩)/\(z:Int)<5/\g≠p/\w1.heap[g]?=some (.cells #[.int .i64 0,.int .i64 0,.int .i64 0,.int .i64 128,.int .i64 224] 3 (0,0)):=hF 3 (hA 3 (by simp))
   obtain⟨q,hc,hq⟩:=j7h h0 hz
   have HQ:=iH hq
   clear hq
   simp only [e3]at hK
   go_simp
   exact hK _ _ hJ (World.grownBy.refl _ _) ⟨q,rfl,HQ.out⟩
  ·exact mx
  ·have e5:v 5=_:=hF 5 (hA 5 (by simp))
   simp only [e5]at hK
   exact mX
  ·exact mx
  ·have e7:v 7=_:=hF 7 (hA 7 (by simp))
   simp only [e7]at hK
   exact mX
  ·exact mx
  ·have e9:v 9=_:=hF 9 (hA 9 (by simp))
   simp only [e9]at hK
   exact mX
  ·exact mx
  ·have e11:v 11=_:=hF 11 (hA 11 (by simp))
   simp only [e11]at hK
   go_simp
   refine(KI B p n 40 w1 hJ.1 (by decide) (by decide)).mono ?_
   rintro e w5 ⟨v5,l5,rfl,hv,hl,hd⟩
   obtain⟨a5,c5,hp5⟩:=Bs.formL hv
   subst hp5
   exact hK _ _ (hJ.trans hd) hd.2 ⟨a5,c5,l5,rfl,by omega,hv.btw hJ.2.size⟩
  ·obtain⟨q,e4,hq⟩:∃q:Int,v 4=.int .i64 q/\(q=0\/q=128\/q=224):=hF 4 (hA 4 (by simp))
   obtain⟨z1,e6,hz1⟩:∃z:Nat,v 6=.int .i64 z/\(z:Int)<256:=hF 6 (hA 6 (by simp))
   obtain⟨z2,e8,hz2⟩:∃z:Nat,v 8=.int .i64 z/\(z:Int)<256:=hF 8 (hA 8 (by simp))
   obtain⟨z3,e10,hz3⟩:∃z:Nat,v 10=.int .i64 z/\(z:Int)<256:=hF 10 (hA 10 (by simp))
   obtain⟨a,c,l,e12,hl,hb⟩:∃(a:Option Addr) (c:Nat) (l:List UInt8),v 12=.slice a l.length c/\l.length<=40/\BsS w1 (Btw w0.heap.size w1.heap.size) (.slice a l.length c) l:=hF 12 (hA 12 (by simp))
   have HQ:=iH hq
   clear hq
   simp only [e4,e6,e8,e10,e12]at hK
   go_simp
   exact hK _ _ hJ (World.grownBy.refl _ _) ⟨q,z1,z2,z3,a,c,l,rfl,HQ.out,by omega,by omega,by omega,hl,hb⟩
  ·exact m2s
 case tail=>
  intro v w1 hJ hF
  have e1:v 1=_:=hF 1 (by simp)
  have e5:v 5=_:=hF 5 (by simp)
  have e7:v 7=_:=hF 7 (by simp)
  have e9:v 9=_:=hF 9 (by simp)
  have e11:v 11=_:=hF 11 (by simp)
  obtain⟨q,z1,z2,z3,a,c,l,e13,hq,h1,h2,h3,hl,hb⟩:∃(q z1 z2 z3:Int) (a:Option Addr) (c:Nat) (l:List UInt8),v 13=.agg #[.int .i64 q,.int .i64 z1,.int .i64 z2,.int .i64 z3,.slice a l.length c,.int .i64 (-1)]/\(q=0\/q=128\/q=224)/\(0<=z1/\z1<=255)/\(0<=z2/\z2<=255)/\(0<=z3/\z3<=255)/\l.length<=40/\BsS w1 (Btw w0.heap.size w1.heap.size) (.slice a l.length c) l:=hF 13 (by simp)
  obtain⟨g,e14,hgp,hg0,hg⟩:∃g,v 14=.pointer (some ⟨g,0,none⟩)/\g≠p/\w0.heap.size<=g/\w1.heap[g]?=some (.cells #[.int .i64 0,.int .i64 0,.int .i64 0,.int .i64 0,.slice none 0 0,.int .i64 0] 32 (0,0)):=hF 14 (by simp)
  simp only [List.drop_succ_cons,List.drop_zero,jf,Act.put,Nat.zero_add,Nat.reduceAdd,List.setIfInBounds_toArray,List.set_cons_zero,List.set_cons_succ]
  simp only [e13,e14]
  have HQ:=iH hq;have HB1:=iH hb;have HG:=iH hg;have HJ:=iH hJ;have H123:=iH (And.intro h1 (And.intro h2 h3));have HL:=iH hl
  clear hq hb hJ h1 h2 h3 hl hF e1 e5 e7 e9 e11 e13 e14
  obtain⟨m0,m1,m2,m3,m4,m5,mf⟩:=j8 hg
  have mf0:=mf 0;have mf1:=mf 1;have mf2:=mf 2;have mf3:=mf 3;have mf4:=mf 4;have mf5:=mf 5
  clear mf hg
  go_upto_region 2 with fail
  obtain⟨wa,hwa⟩:∃wa,wa=set6 w1 g (.int .i64 q) (.int .i64 z1) (.int .i64 z2) (.int .i64 z3) (.slice a l.length c) (.int .i64 (-1)):=⟨_,rfl⟩
  have SA:Hid (CSt B p n w g q z1 z2 z3 a c l (-1) wa):=iH (by rw [hwa];exact CSt.start (D0.out.trans HJ.out) hBw hg0 (R0.out) z0 HJ.out (by have:=HPB.out;omega) HG.out ZB (HB1.out.wide (by omega) iL) (by have:=HL.out;omega))
  unfold Go.Proofs.YtadndhgebgjlaaaGreat.set6 at hwa
  rw [<-hwa]
  clear hwa m0 m1 m2 m3 m4 m5 mf0 mf1 mf2 mf3 mf4 mf5 HB1 HJ HG
  have hpw:p<w.heap.size:=by omega
  have hgw:w.heap.size<g:=by omega
  go_upto_if 19 with (go_at_call 12;refine(Qx B p n 8 wa SA.out.die (by decide) (by decide)).mono ?_;rintro e w5 ⟨b5,rfl,hd⟩;have S5:=iH (SA.out.roll hd hpw hgw);clear hd)
  go_cut [] from 18 to 26 (fun wx=>∃A C L,CSt B p n w g q z1 z2 z3 A C L (-1) wx/\L.length<=3000)
  case first=>
   cases b5
   ·go_wp2_with fail
    go_meet
    exact⟨_,_,_,S5.out,by have:=HL.out;omega⟩
   ·go_wp2_with(first
     |(at_make;(with_reducible refine yH rfl (.tmp 24) rfl (k:Int) k rfl rfl (Nat.le_trans hk6 (by decide)) ?_);intro w7 hx hb;have S7:=iH (S6.out.below hb hpw hgw);have X7:=iH (hx.btw (lo:=w.heap.size+1) (by have:=S6.out.lt;omega));clear hx hb;obtain⟨m0,m1,m2,m3,m4,m5,mf⟩:=j8 S7.out.row;have mf4:=mf 4;clear mf)
     |(go_at_call 15;refine(ke B p n 4 _ (S5.out.die.alloc _) (by decide) (by decide)).mono ?_;rintro e w6 ⟨z,rfl,hz,hd⟩;have S6:=iH ((S5.out.alloc hpw hgw _).roll hd hpw hgw);obtain⟨k,hc6,hk6⟩:=j7j ((hd.blk (k:=w5.heap.size) (by simp) (by have:=S5.out.lt;omega)).trans (iN)) hz;clear hd))
    go_meet
    exact⟨_,_,List.replicate k 0,S7.out.data (M:=List.replicate k 0) hBw hgw (by simpa using X7.out) (by simp;omega) (by simp),by simp;omega⟩
  case rest=>
   obtain⟨A2,C2,L2,hS,hL2⟩:=hcut
   have SB:=iH hS;have HL2:=iH hL2
   clear hS hL2 HL S5 SA b5
   go_upto_if 28 with (go_at_call 12;refine(Qx B p n 2 wc SB.out.die (by decide) (by decide)).mono ?_;rintro e w5 ⟨b5,rfl,hd⟩;have S5:=iH (SB.out.roll hd hpw hgw);clear hd)
   go_cut [] from 27 to 34 (fun wx=>∃ex,CSt B p n w g q z1 z2 z3 A2 C2 L2 ex wx/\(ex= -1\/(1<=ex/\ex<=65536)))
   case first=>
    cases b5
    ·go_wp2_with fail
     go_meet
     exact⟨_,S5.out,.inl rfl⟩
    ·go_wp2_with(go_at_call 15;refine(ke B p n 7 _ (S5.out.die.alloc _) (by decide) (by decide)).mono ?_;rintro e w6 ⟨z,rfl,hz,hd⟩;have S6:=iH ((S5.out.alloc hpw hgw _).roll hd hpw hgw);obtain⟨k,hc6,hk6,hk7⟩:=j7i ((hd.blk (k:=w5.heap.size) (by simp) (by have:=S5.out.lt;omega)).trans (iN)) hz;clear hd;obtain⟨m0,m1,m2,m3,m4,m5,mf⟩:=j8 S6.out.row;have mf5:=mf 5;clear mf)
     go_meet
     exact⟨_,S6.out.exp hBw hgw k,.inr ⟨hk6,hk7⟩⟩
   case rest=>
    obtain⟨ex,hS,hE⟩:=hcut
    have SC:=iH hS;have HE:=iH hE
    clear hS hE S5 SB b5
    obtain⟨m0,m1,m2,m3,m4,m5,_⟩:=j8 SC.out.row
    obtain⟨n0,n1,n2,n3,n4,n5,nf⟩:=j8 SC.out.2.2.1
    have nf0:=nf 0;have nf1:=nf 1;have nf2:=nf 2;have nf3:=nf 3;have nf4:=nf 4;have nf5:=nf 5
    clear nf
    obtain⟨y0,y1,y2,y3,y4,y5,_⟩:=j8 (zz (.int .i64 q) (.int .i64 z1) (.int .i64 z2) (.int .i64 z3) (.slice A2 L2.length C2) (.int .i64 ex) SC.out.2.2.1)
    go_wp2_with fail
    refine bodyPost_ret (v:=.agg #[.int .i64 q,.int .i64 z1,.int .i64 z2,.int .i64 z3,.slice A2 L2.length C2,.int .i64 ex]) (by simp only [set6]at y0 y1 y2 y3 y4 y5;simp [results,Tryz.results11,go_sem,y0,y1,y2,y3,y4,y5]) rfl ?_
    exact SC.out.done hBw ⟨HQ.out,H123.out.1,H123.out.2.1,H123.out.2.2,HL2.out,HE.out⟩
theorem j7k{w:World}{g z:Nat}{t:TypeId}(h:w.heap[g]?=some (.cells #[.int .i64 2048,.int .i64 4000,.int .i64 4064,.int .i64 4065,.int .i64 4096,.int .i64 4097] t (0,0)))(hz:(z:Int)<6):∃k:Nat,w.cell? ⟨g,z,none⟩=some (.int .i64 k)/\k<=4097:=by
 rcases(by omega:z=0\/z=1\/z=2\/z=3\/z=4\/z=5)with rfl|rfl|rfl|rfl|rfl|rfl
 ·exact⟨2048,cell_of_row _ _ _ _ _ _ h,by decide⟩
 ·exact⟨4000,cell_of_row _ _ _ _ _ _ h,by decide⟩
 ·exact⟨4064,cell_of_row _ _ _ _ _ _ h,by decide⟩
 ·exact⟨4065,cell_of_row _ _ _ _ _ _ h,by decide⟩
 ·exact⟨4096,cell_of_row _ _ _ _ _ _ h,by decide⟩
 ·exact⟨4097,cell_of_row _ _ _ _ _ _ h,by decide⟩
theorem j7l{w:World}{g z s:Nat}{t:TypeId}(h:w.heap[g]?=some (.cells #[.int .i64 36864,.int .i64 25218,.int .i64 27266,.int .i64 s] t (0,0)))(hz:(z:Int)<4)(hs:(s:Int)<65536):∃q:Int,w.cell? ⟨g,z,none⟩=some (.int .i64 q)/\0<=q/\q<=65535:=by
 rcases(by omega:z=0\/z=1\/z=2\/z=3)with rfl|rfl|rfl|rfl
 ·exact m04
 ·exact m04
 ·exact m04
 ·exact⟨_,cell_of_row _ _ _ _ _ _ h,by omega,by omega⟩
def yM(p:Nat)(w:World):Nat->Prop:=fun b=>b<w.heap.size/\b≠p
theorem BsS.rollO{B:Nat}{w w1:World}{p n:Nat}{v:Value}{l:List UInt8}(h:BsS w (yM p w) v l)(hd:DiePost B w p n w1):BsS w1 (yM p w1) v l:=h.keep fun b hs hl=>⟨hd.blk hl hs.2,iZ hl hd.2.size,hs.2⟩
theorem BsS.newO{w w1:World}{p:Nat}{v:Value}{l:List UInt8}(h:BsS w1 (New w w1) v l)(hp:p<w.heap.size):BsS w1 (yM p w1) v l:=h.keep fun b hs hl=>⟨rfl,hl,by have:=hs.1;omega⟩
theorem BsS.setO{w:World}{p g k:Nat}{v:Value}{l:List UInt8}{C:Array Value}{t:TypeId}(h:BsS w (yM p w) v l)(hr:w.heap[g]?=some (.cells C t (0,0)))(hn:noB C)(u:Value):BsS (w.setCell ⟨g,k,none⟩ u) (yM p (w.setCell ⟨g,k,none⟩ u)) v l:=
 BsS.keep (h.off hr hn) fun b hs hl=>⟨iO hs.2,by simpa using hl,hs.1.2⟩
def RSt(B p n:Nat)(w:World)(g:Nat)(A:Option Addr)(C:Nat)(L:List UInt8)(st:Int)(wx:World):Prop:=
 DiePost B w p n wx/\wx.heap[g]?=some (.cells #[.slice A L.length C,.int .i64 st] 44 (0,0))/\wx.heap[w.heap.size]?=some (.cells #[.slice none 0 0,.int .i64 0] 44 (0,0))/\BsS wx (Btw (w.heap.size+1) wx.heap.size) (.slice A L.length C) L/\L.length<=4097
section
variable {B p n g:Nat} {w wx wy:World} {st:Int} {A:Option Addr} {C:Nat} {L:List UInt8}
theorem Uq{A:Option Addr}{m C:Nat}{st:Int}:noB #[.slice A m C,.int .i64 st]:=by
 intro i x
 rcases i with _|_|i
 all_goals
  simp
section
variable(h:RSt B p n w g A C L st wx)
include h
theorem RSt.die:Die B wx p n:=h.1.1
theorem RSt.row:wx.heap[g]?=some (.cells #[.slice A L.length C,.int .i64 st] 44 (0,0)):=h.2.1
theorem RSt.lt:w.heap.size<wx.heap.size/\g<wx.heap.size:=⟨(iG h.2.2.1),(iG h.2.1)⟩
theorem RSt.roll(hd:DiePost B wx p n wy)(hp:p<w.heap.size)(hg:w.heap.size<g):RSt B p n w g A C L st wy:=
 ⟨h.1.trans hd,(hd.blk h.lt.2 (by omega)).trans h.2.1,(hd.blk h.lt.1 (by omega)).trans h.2.2.1,h.2.2.2.1.roll hd (by omega),h.2.2.2.2⟩
theorem RSt.below(hb:Below wx.heap.size wx wy)(hp:p<w.heap.size)(hg:w.heap.size<g):RSt B p n w g A C L st wy:=h.roll (DiePost.below (DiePost.refl h.die) hb) hp hg
theorem RSt.alloc(hp:p<w.heap.size)(hg:w.heap.size<g)(o:Obj):RSt B p n w g A C L st (wx.alloc o):=h.roll ((DiePost.refl h.die).alloc o) hp hg
theorem RSt.data(hB:B<=w.heap.size)(hg:w.heap.size<g){A2:Option Addr}{C2:Nat}{M:List UInt8}(hv:BsS wx (Btw (w.heap.size+1) wx.heap.size) (.slice A2 M.length C2) M)(hl:M.length<=4097){D:Value}(hD:D=.slice A2 M.length C2):
 RSt B p n w g A2 C2 M st (wx.setCell ⟨g,0,none⟩ D):=by
 subst hD
 refine⟨h.1.set hB (by omega) _,jg (o:=0) h.row,(iO (by show w.heap.size≠g;omega)).trans h.2.2.1,?_,hl⟩
 exact BsS.keep (hv.off h.row Uq) fun b hs hl=>⟨iO hs.2,hs.1.1,by simpa using hl⟩
end
def j3y(B:Nat)(w:World)(p n:Nat)(P:List UInt8->Int->Prop)(e:Ending)(w':World):Prop:=∃v l st,e=.returned v/\QU w' (New w w') v l st/\P l st/\DiePost B w p n w'
theorem RSt.done(h:RSt B p n w g A C L st wx)(hB:B<=w.heap.size){P:List UInt8->Int->Prop}(hP:P L st):
 j3y B w p n P (.returned (.agg #[.slice A L.length C,.int .i64 st])) ((wx.setCell ⟨w.heap.size,0,none⟩ (.slice A L.length C)).setCell ⟨w.heap.size,1,none⟩ (.int .i64 st)):=
 ⟨_,L,st,rfl,⟨_,rfl,h.2.2.2.1.keep fun b hs hl=>⟨(iO (by show b≠w.heap.size;have:=hs.1;omega)).trans (iO (by show b≠w.heap.size;have:=hs.1;omega)),by have:=hs.1;omega,by simpa using hl⟩⟩,hP,(h.1.set hB iL _).set hB iL _⟩
end
theorem Qk(B p n:Nat)(w:World)(h:Die B w p n):Calls Tryz.prog 20 #[.pointer (some ⟨p,0,none⟩)] w (j3y B w p n fun l st=>l.length<=4097/\0<=st/\st<=65535):=by
 obtain⟨w0,hw0⟩:∃w0,w0=w.alloc (.cells #[.slice none 0 0,.int .i64 0] 44):=⟨_,rfl⟩
 have D0:Hid (DiePost B w p n w0):=iH (by rw [hw0];exact(DiePost.refl h).alloc _)
 have R0:Hid (w0.heap[w.heap.size]?=some (.cells #[.slice none 0 0,.int .i64 0] 44 (0,0))):=iH (by rw [hw0];exact iN)
 have z0:w0.heap.size=w.heap.size+1:=by rw [hw0];simp
 have HW0:=iH hw0
 have hBw:=h.le
 have hpB:=h.lt
 have hpw:p<w.heap.size:=by omega
 clear h hw0
 go_enter Tryz.func20,Tryz.ntmps20
 go_upto_region 1 with fail
 rw [<-HW0.out]
 go_upto_region 2 with (first
  |(go_at_call 15;refine(ke B p n 4 _ (D2.out.1.alloc _) (by decide) (by decide)).mono ?_;rintro e w3 ⟨z,rfl,hz,hd⟩;have D3:=iH ((D2.out.alloc _).trans hd);have V3:=iH (V2.out.roll ((DiePost.refl D2.out.1).alloc _ |>.trans hd) (by omega));have R3:=iH ((((DiePost.refl D2.out.1).alloc _ |>.trans hd).blk (k:=w.heap.size) (by omega) (by omega)).trans R2.out);obtain⟨st,hst,st0,st1⟩:=j7l ((hd.blk (k:=w2.heap.size) (by simp) (by have:=z2;have:=z1;omega)).trans (iN)) hz hs;have z3:=hd.2.size;rw [YW]at z3;clear hd)
  |(go_at_call 15;refine(ke B p n 65536 w1 D1.out.1 (by decide) (by decide)).mono ?_;rintro e w2 ⟨s,rfl,hs,hd⟩;have D2:=iH (D1.out.trans hd);have V2:=iH (V1.out.roll hd (by omega));have R2:=iH ((hd.blk (k:=w.heap.size) (by omega) (by omega)).trans R1.out);have z2:=hd.2.size;clear hd)
  |(go_at_call 27;refine(KI B p n 40 w0 D0.out.1 (by decide) (by decide)).mono ?_;rintro e w1 ⟨v1,l,rfl,hv,hl,hd⟩;obtain⟨A1,c1,hp⟩:=Bs.formL hv;subst hp;have HL:Hid (l.length<=40):=iH (by omega);have D1:=iH (D0.out.trans hd);have V1:=iH (hv.btw (lo:=w.heap.size+1) (by omega));have R1:=iH ((hd.blk (k:=w.heap.size) (by omega) (by omega)).trans R0.out);have z1:=hd.2.size;clear hd hv hl))
 obtain⟨w4,hw4⟩:∃w4,w4=w3.alloc (.cells #[.slice A1 l.length c1,.int .i64 st] 44):=⟨_,rfl⟩
 rw [<-hw4]
 have SA:Hid (RSt B p n w w3.heap.size A1 c1 l st w4):=iH (by rw [hw4];exact⟨D3.out.alloc _,iN,(Below.heap_alloc _ _ _ (by omega)).trans R3.out,V3.out.keep fun b hs hl=>⟨Below.heap_alloc _ _ _ hl,hs.1,by have:=hs.2;simp;omega⟩,by have:=HL.out;omega⟩)
 have hgw:w.heap.size<w3.heap.size:=by omega
 clear hw4 hst
 obtain⟨g,hg⟩:∃g,w3.heap.size=g:=⟨_,rfl⟩
 rw [hg]at SA hgw |-
 clear hg hz hs
 go_upto_if 15 with (go_at_call 12;refine(Qx B p n 9 w4 SA.out.die (by decide) (by decide)).mono ?_;rintro e w5 ⟨b5,rfl,hd⟩;have S5:=iH (SA.out.roll hd hpw hgw);clear hd)
 go_cut [] from 14 to 22 (fun wx=>∃A C L,RSt B p n w g A C L st wx)
 case first=>
  cases b5
  ·go_wp2_with fail
   go_meet
   exact⟨_,_,_,S5.out⟩
  ·go_wp2_with(first
    |(at_make;(with_reducible refine yH rfl (.tmp 20) rfl (k:Int) k rfl rfl (Nat.le_trans hk6 (by decide)) ?_);intro w7 hx hb;have S7:=iH (S6.out.below hb hpw hgw);have X7:=iH (hx.btw (lo:=w.heap.size+1) (by have:=S6.out.lt;omega));clear hx hb;obtain⟨m0,m1,mf⟩:=jd S7.out.row;have mf0:=mf 0;clear mf)
    |(go_at_call 15;refine(ke B p n 6 _ (S5.out.die.alloc _) (by decide) (by decide)).mono ?_;rintro e w6 ⟨z,rfl,hz,hd⟩;have S6:=iH ((S5.out.alloc hpw hgw _).roll hd hpw hgw);obtain⟨k,hc6,hk6⟩:=j7k ((hd.blk (k:=w5.heap.size) (by simp) (by have:=S5.out.lt;omega)).trans (iN)) hz;clear hd))
   go_meet
   exact⟨_,_,List.replicate k 0,S7.out.data (M:=List.replicate k 0) hBw hgw (by simpa using X7.out) (by simp;omega) (by simp)⟩
 case rest=>
  obtain⟨A2,C2,L2,hS⟩:=hcut
  have SC:=iH hS
  clear hS S5 SA b5
  obtain⟨m0,m1,_⟩:=jd SC.out.row
  obtain⟨n0,n1,nf⟩:=jd SC.out.2.2.1
  have nf0:=nf 0;have nf1:=nf 1
  clear nf
  obtain⟨y0,y1,_⟩:=jd (jg (o:=1) (v:=.int .i64 st) (jg (o:=0) (v:=.slice A2 L2.length C2) SC.out.2.2.1))
  go_wp2_with fail
  refine bodyPost_ret (v:=.agg #[.slice A2 L2.length C2,.int .i64 st]) (by simp [results,Tryz.results20,go_sem,y0,y1]) rfl ?_
  exact SC.out.done hBw ⟨SC.out.2.2.2.2,st0,st1⟩
section
variable {B p n:Nat} {w wx wy:World} {q z1 z2 z3 ex:Int} {A:Option Addr} {C:Nat} {L:List UInt8}
theorem j3h{w:World}{p g:Nat}{v:Value}{l:List UInt8}{x0 x1 x2 x3 x4 x5:Value}{t:TypeId}(h:BsS w (yM p w) v l)(hr:w.heap[g]?=some (.cells #[x0,x1,x2,x3,x4,x5] t (0,0)))(hn:noB #[x0,x1,x2,x3,x4,x5])(a b c d e f:Value):BsS (set6 w g a b c d e f) (yM p (set6 w g a b c d e f)) v l:=
 BsS.keep (h.off hr hn) fun b hs hl=>⟨jQ hs.2,by rw [qq];exact hl,hs.1.2⟩
end
section
variable {B p n:Nat} {w wx wy:World} {A1 A2:Option Addr} {c1 c2:Nat} {k1 k2:List UInt8} {m:Int}
theorem j6x{A1 A2:Option Addr}{a b c1 c2:Nat}{m:Int}:noB #[.slice A1 a c1,.slice A2 b c2,.int .i64 m]:=j5e _ _ _ _ _ _ _
end
def SesAt(p:Nat)(w:World)(g:Nat)(k1 k2:List UInt8)(n:Int):Prop:=∃A c B d,w.heap[g]?=some (.cells #[.slice A k1.length c,.slice B k2.length d,.int .i64 n] 29 (0,0))/\BsS w (yM p w) (.slice A k1.length c) k1/\BsS w (yM p w) (.slice B k2.length d) k2
def CmdAt(p:Nat)(w:World)(g:Nat)(c:Cm):Prop:=∃A C,w.heap[g]?=some (.cells #[.int .i64 c.cl,.int .i64 c.ins,.int .i64 c.p1,.int .i64 c.p2,.slice A c.data.length C,.int .i64 c.ex] 32 (0,0))/\BsS w (yM p w) (.slice A c.data.length C) c.data
def RspAt(p:Nat)(w:World)(g:Nat)(d:List UInt8)(st:Int):Prop:=∃A C,w.heap[g]?=some (.cells #[.slice A d.length C,.int .i64 st] 44 (0,0))/\BsS w (yM p w) (.slice A d.length C) d
theorem j5f{v:Value}{k:Int}(hv:∀x,v≠U8 x):noB #[v,.int .i64 k]:=by
 intro i x
 rcases i with _|_|i
 ·simpa using hv x
 ·simp
 ·simp
section
variable {B p n g g' k:Nat} {w w':World} {k1 k2 d:List UInt8} {m st:Int} {c:Cm}
theorem BsS.offD{v:Value}{l:List UInt8}(h:Bs w w.heap.size v l)(hd:Die B w p n):BsS w (yM p w) v l:=by
 obtain⟨u,at_,_,hr,hI,_⟩:=hd
 obtain⟨a,cc,rfl,_⟩:=hI
 exact BsS.keep (BsS.off h hr (j5f (by simp))) fun b hs hl=>⟨rfl,hl,hs.2⟩
theorem SesAt.roll(h:SesAt p w g k1 k2 m)(hd:DiePost B w p n w')(hg:g≠p):SesAt p w' g k1 k2 m:=by
 obtain⟨A,c,A',c',hr,h1,h2⟩:=h
 exact⟨A,c,A',c',(hd.blk (iG hr) hg).trans hr,h1.rollO hd,h2.rollO hd⟩
theorem CmdAt.roll(h:CmdAt p w g c)(hd:DiePost B w p n w')(hg:g≠p):CmdAt p w' g c:=by
 exact m3t
theorem RspAt.roll(h:RspAt p w g d st)(hd:DiePost B w p n w')(hg:g≠p):RspAt p w' g d st:=by
 exact m3t
theorem SesAt.other(h:SesAt p w g k1 k2 m){C:Array Value}{t:TypeId}(hr':w.heap[g']?=some (.cells C t (0,0)))(hn:noB C)(hne:g≠g')(u:Value):SesAt p (w.setCell ⟨g',k,none⟩ u) g k1 k2 m:=by
 obtain⟨A,c,A',c',hr,h1,h2⟩:=h
 exact⟨A,c,A',c',(iO hne).trans hr,h1.setO hr' hn _,h2.setO hr' hn _⟩
theorem CmdAt.other(h:CmdAt p w g c){C:Array Value}{t:TypeId}(hr':w.heap[g']?=some (.cells C t (0,0)))(hn:noB C)(hne:g≠g')(u:Value):CmdAt p (w.setCell ⟨g',k,none⟩ u) g c:=by
 exact m41
theorem RspAt.other(h:RspAt p w g d st){C:Array Value}{t:TypeId}(hr':w.heap[g']?=some (.cells C t (0,0)))(hn:noB C)(hne:g≠g')(u:Value):RspAt p (w.setCell ⟨g',k,none⟩ u) g d st:=by
 exact m41
theorem CmdAt.setD(h:CmdAt p w g c){A:Option Addr}{C:Nat}(hv:BsS w (yM p w) (.slice A d.length C) d):CmdAt p (w.setCell ⟨g,4,none⟩ (.slice A d.length C)) g {c with data:=d}:=by
 obtain⟨_,_,hr,_⟩:=h
 exact⟨A,C,jg (o:=4) hr,hv.setO hr ZB _⟩
theorem RspAt.setD(h:RspAt p w g d st){A:Option Addr}{C:Nat}{e:List UInt8}(hv:BsS w (yM p w) (.slice A e.length C) e):RspAt p (w.setCell ⟨g,0,none⟩ (.slice A e.length C)) g e st:=by
 obtain⟨_,_,hr,_⟩:=h
 exact⟨A,C,jg (o:=0) hr,hv.setO hr Uq _⟩
theorem BsS.lo{v:Value}{l:List UInt8}(h:BsS w (yM p w) v l):BsS w (·<w.heap.size) v l:=h.keep fun _ hs _=>⟨rfl,hs.1⟩
end
def Nob(w:World)(b:Nat):Prop:=∃C t f,w.heap[b]?=some (.cells C t f)/\noB C
def RNB(p:Nat)(w1 w2:World):Prop:=w1.heap.size<=w2.heap.size/\∀b,b<w1.heap.size->b≠p->w2.heap[b]?=w1.heap[b]? \/Nob w1 b
def JZD(B p n:Nat)(w0:World)(a s c t:Nat)(ZA:Array Value)(tA:TypeId)(ZC:Array Value)(tC:TypeId)(R:World->Nat->Prop)(L:Nat->Bool)(v:Nat->Value)(w1:World):Prop:=
 DiePost B w0 p n w1/\(L a=true->∃q,v a=.pointer (some ⟨q,0,none⟩)/\w0.heap.size<=q/\q<w1.heap.size/\(L s=false->w1.heap[q]?=some (.cells ZA tA (0,0)))/\(L s=true->R w1 q))/\
 (L c=true->∃q,v c=.pointer (some ⟨q,0,none⟩)/\w0.heap.size<=q/\q<w1.heap.size/\(L t=false->w1.heap[q]?=some (.cells ZC tC (0,0))))/\(L a=true->L c=true->v a≠v c)/\(L s=true->L a=true)
section
variable {B p n:Nat} {w0 w1 w2:World} {a s c t:Nat} {ZA ZC:Array Value} {tA tC:TypeId} {R:World->Nat->Prop} {L:Nat->Bool} {v:Nat->Value} {y:Value}
theorem RNB.bs{x:Value}{l:List UInt8}(h:RNB p w1 w2)(hb:BsS w1 (yM p w1) x l):BsS w2 (yM p w2) x l:=by
 obtain⟨A,k,hv,h1,h2,h3,h4⟩:=hb
 refine⟨A,k,hv,h1,h2,h3,fun h0=> ?_⟩
 obtain⟨b,off,e,hS,hc⟩:=h4 h0
 refine⟨b,off,e,⟨iZ hS.1 h.1,hS.2⟩,fun j hj=> ?_⟩
 rcases h.2 b hS.1 hS.2 with hb|⟨C,u,f,hb,hn⟩
 ·exact m45
 ·exfalso
  have hc0:=hc j hj
  rw [cell_of_row _ _ _ _ _ _ hb]at hc0
  exact hn (off+j) _ hc0
theorem RNB.die(h:DiePost B w1 p n w2):RNB p w1 w2:=⟨h.2.size,fun _ hb hp=>.inl (h.blk hb hp)⟩
theorem RNB.refl:RNB p w1 w1:=⟨Nat.le_refl _,fun _ _ _=>.inl rfl⟩
theorem RNB.row{q:Nat}{Z:Array Value}{u:TypeId}(hr:w1.heap[q]?=some (.cells Z u (0,0)))(hn:noB Z)(hz:w1.heap.size<=w2.heap.size)(ho:∀j,j≠q->w2.heap[j]?=w1.heap[j]?):RNB p w1 w2:=⟨hz,fun b _ _=>by
 by_cases h:b=q
 ·subst h;exact .inr ⟨_,_,_,hr,hn⟩
 ·exact .inl (ho b h)⟩
theorem JZD.start(h:Die B w0 p n):JZD B p n w0 a s c t ZA tA ZC tC R (fun _=>false) v w0.drew:=by
 refine⟨(DiePost.refl h).drew,?_,?_,?_,?_⟩<;>(intro h;exact absurd h (by simp))
def UU(p:Nat)(R:World->Nat->Prop):Prop:=∀w1 w2 q,R w1 q->w2.heap[q]?=w1.heap[q]? ->RNB p w1 w2->R w2 q
section
variable(h:JZD B p n w0 a s c t ZA tA ZC tC R L v w1)
include h
theorem JZD.step(hR:UU p R)(hB:p<w0.heap.size)(hd:DiePost B w1 p n w2)(i:Nat)(ha:i≠a)(hs:i≠s)(hc:i≠c)(ht:i≠t):JZD B p n w0 a s c t ZA tA ZC tC R (ji L i) (jy v i y) w2:=by
 refine⟨h.1.trans hd,fun h2=> ?_,fun h2=> ?_,fun h1 h2=> ?_,fun h2=> ?_⟩
 ·simp only [ji,iF (Ne.symm ha),iF (Ne.symm hs)]at h2 |-
  obtain⟨q,e,hq,hl,z1,z2⟩:=h.2.1 h2
  have hb:=hd.blk hl (by omega)
  exact⟨q,by simp only [jy];rw [iF (Ne.symm ha)];exact e,hq,iZ hl hd.2.size,fun g=>hb.trans (z1 g),fun g=>hR _ _ _ (z2 g) hb (RNB.die hd)⟩
 ·simp only [ji,iF (Ne.symm hc),iF (Ne.symm ht)]at h2 |-
  obtain⟨q,e,hq,hl,z1⟩:=h.2.2.1 h2
  exact⟨q,by simp only [jy];rw [iF (Ne.symm hc)];exact e,hq,iZ hl hd.2.size,fun g=>(hd.blk hl (by omega)).trans (z1 g)⟩
 ·simp only [ji,iF (Ne.symm ha),iF (Ne.symm hc)]at h1 h2
  simp only [jy,iF (Ne.symm ha),iF (Ne.symm hc)]
  exact h.2.2.2.1 h1 h2
 ·simp only [ji,iF (Ne.symm ha),iF (Ne.symm hs)]at h2 |-
  exact h.2.2.2.2 h2
theorem JZD.allocA(hla:L a=false)(has:a≠s)(hc:c≠a)(ht:t≠a):JZD B p n w0 a s c t ZA tA ZC tC R (ji L a) (jy v a (.pointer (some ⟨w1.heap.size,0,none⟩))) (w1.alloc (.cells ZA tA)):=by
 refine⟨h.1.alloc _,fun _=>⟨w1.heap.size,by simp [jy],h.1.2.size,by simp,fun _=>iN,fun g=> ?_⟩,fun h2=> ?_,fun _ h2=> ?_,fun _=>by simp [ji]⟩
 ·simp only [ji,iF (Ne.symm has)]at g
  rw [h.2.2.2.2 g]at hla;cases hla
 ·simp only [ji,iF hc,iF ht]at h2 |-
  obtain⟨q,e,hq,hl,z1⟩:=h.2.2.1 h2
  exact⟨q,by simp only [jy];rw [iF hc];exact e,hq,iZ hl (by simp),fun g=>(Below.heap_alloc _ _ _ hl).trans (z1 g)⟩
 ·simp only [ji,iF hc]at h2
  simp only [jy,iF hc]
  obtain⟨q,e,hq,hl,z1⟩:=h.2.2.1 h2
  rw [e]
  simp<;>omega
theorem JZD.allocC(hR:UU p R)(ha:a≠c)(hs:s≠c):JZD B p n w0 a s c t ZA tA ZC tC R (ji L c) (jy v c (.pointer (some ⟨w1.heap.size,0,none⟩))) (w1.alloc (.cells ZC tC)):=by
 refine⟨h.1.alloc _,fun h2=> ?_,fun _=>⟨w1.heap.size,by simp [jy],h.1.2.size,by simp,fun _=>iN⟩,fun h2 _=> ?_,fun h2=> ?_⟩
 ·simp only [ji,iF ha,iF hs]at h2 |-
  obtain⟨q,e,hq,hl,z1,z2⟩:=h.2.1 h2
  have hb:=Below.heap_alloc w1 (.cells ZC tC) q hl
  exact⟨q,by simp only [jy];rw [iF ha];exact e,hq,iZ hl (by simp),fun g=>hb.trans (z1 g),fun g=>hR _ _ _ (z2 g) hb ⟨by simp,fun b hb' _=>.inl (Below.heap_alloc _ _ _ hb')⟩⟩
 ·simp only [ji,iF ha]at h2
  simp only [jy,iF ha]
  obtain⟨q,e,hq,hl,_⟩:=h.2.1 h2
  rw [e]
  simp<;>omega
 ·simp only [ji,iF ha,iF hs]at h2 |-
  exact h.2.2.2.2 h2
theorem JZD.storeA(hL:L a=true){q:Nat}(hq:v a=.pointer (some ⟨q,0,none⟩))(hd:DiePost B w0 p n w2)(hz:w2.heap.size=w1.heap.size)(ho:∀j,j≠q->w2.heap[j]?=w1.heap[j]?)(hw:R w2 q)(has:a≠s)(hc:c≠s)(ht:t≠s):JZD B p n w0 a s c t ZA tA ZC tC R (ji L s) (jy v s y) w2:=by
 refine⟨hd,fun _=> ?_,fun h2=> ?_,fun h1 h2=> ?_,fun _=>by simp only [ji,iF has];exact hL⟩
 ·obtain⟨q',e,hq',hl,_⟩:=h.2.1 hL
  obtain rfl:q'=q:=by rw [hq]at e;injection e with e;injection e with e;injection e with e;exact e.symm
  exact⟨q',by simp only [jy];rw [iF has];exact hq,hq',by omega,fun g=>by simp [ji]at g,fun _=>hw⟩
 ·simp only [ji,iF hc,iF ht]at h2 |-
  obtain⟨q',e,hq',hl,z1⟩:=h.2.2.1 h2
  have hne:q'≠q:=fun e'=>h.2.2.2.1 hL h2 (by rw [hq,e,e'])
  exact⟨q',by simp only [jy];rw [iF hc];exact e,hq',by omega,fun g=>(ho _ hne).trans (z1 g)⟩
 ·simp only [ji,iF has,iF hc]at h1 h2
  simp only [jy,iF has,iF hc]
  exact h.2.2.2.1 h1 h2
theorem JZD.storeC(hR:UU p R)(hL:L c=true){q:Nat}(hq:v c=.pointer (some ⟨q,0,none⟩))(hd:DiePost B w0 p n w2)(hz:w2.heap.size=w1.heap.size)(ho:∀j,j≠q->w2.heap[j]?=w1.heap[j]?)(hnb:RNB p w1 w2)(hct:c≠t)(ha:a≠t)(hs:s≠t):JZD B p n w0 a s c t ZA tA ZC tC R (ji L t) (jy v t y) w2:=by
 refine⟨hd,fun h2=> ?_,fun _=> ?_,fun h1 h2=> ?_,fun h2=> ?_⟩
 ·simp only [ji,iF ha,iF hs]at h2 |-
  obtain⟨q',e,hq',hl,z1,z2⟩:=h.2.1 h2
  have hne:q'≠q:=fun e'=>h.2.2.2.1 h2 hL (by rw [hq,e,e'])
  exact⟨q',by simp only [jy];rw [iF ha];exact e,hq',by omega,fun g=>(ho _ hne).trans (z1 g),fun g=>hR _ _ _ (z2 g) (ho _ hne) hnb⟩
 ·obtain⟨q',e,hq',hl,_⟩:=h.2.2.1 hL
  obtain rfl:q'=q:=by rw [hq]at e;injection e with e;injection e with e;injection e with e;exact e.symm
  exact⟨q',by simp only [jy];rw [iF hct];exact hq,hq',by omega,fun g=>by simp [ji]at g⟩
 ·simp only [ji,iF hct,iF ha]at h1 h2
  simp only [jy,iF hct,iF ha]
  exact h.2.2.2.1 h1 h2
 ·simp only [ji,iF ha,iF hs]at h2 |-
  exact h.2.2.2.2 h2
end
theorem CmdAt.keepR:UU p (fun w q=>∃c,CmdAt p w q c):=by
 intro w1 w2 q ⟨c,A,C,hr,hb⟩ he hn
 exact⟨c,A,C,he.trans hr,hn.bs hb⟩
theorem RspAt.keepR:UU p (fun w q=>∃d st,RspAt p w q d st):=by
 intro w1 w2 q ⟨d,st,A,C,hr,hb⟩ he hn
 exact⟨d,st,A,C,he.trans hr,hn.bs hb⟩
end
end Go.Proofs.YtadndhgebgjlaaaGreat
