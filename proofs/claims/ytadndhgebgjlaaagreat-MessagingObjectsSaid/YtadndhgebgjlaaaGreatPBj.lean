/- The padded beginning of a command, both sides; bits of a class; Words for two results: a command and a session -/
import Derived.Test.YtadndhgebgjlaaaGreatPBi
set_option linter.all false
set_option maxRecDepth 100000
set_option maxHeartbeats 1000000
namespace Go.Proofs.YtadndhgebgjlaaaGreat
open Go.RowKit Go.Deep
theorem m3i{P:Prop}(h:P:=by
 have hq:ji L i s=L s:=by unfold ji;exact iF hi
 show w1=if ji L i s=true then _ else _
 rw [hq]
 exact h):P:=h
def xB(cl ins p1 p2:Int):List UInt8:=xW [ofI cl,ofI ins,ofI p1,ofI p2]
theorem yj(cl ins p1 p2:Int):(xB cl ins p1 p2).length=16:=rfl
theorem j8a(w:World)(a b c d:Int):Bs (w.alloc (.cells #[U8 (ofI a),U8 (ofI b),U8 (ofI c),U8 (ofI d)] 5)) (w.alloc (.cells #[U8 (ofI a),U8 (ofI b),U8 (ofI c),U8 (ofI d)] 5)).heap.size (.slice (some ⟨w.heap.size,0,none⟩) 4 4) [ofI a,ofI b,ofI c,ofI d]:=
 BsS.fresh w [ofI a,ofI b,ofI c,ofI d] #[U8 (ofI a),U8 (ofI b),U8 (ofI c),U8 (ofI d)] 5 rfl _ (by simp) (by simp)
def j4p(n:Nat):Bool:=decide (bits BinOp.and IntKind.i64 (n:Int) 12=((n / 4 % 4*4:Nat):Int))&&decide (bits BinOp.or IntKind.i64 (n:Int) 12=((n / 16*16+12+n % 4:Nat):Int))
theorem Y9:((List.range 256).all j4p)=true:=by decide+kernel
theorem Jr(n:Nat)(h:n<256):bits BinOp.and IntKind.i64 (n:Int) 12=((n / 4 % 4*4:Nat):Int):=by
 have:=List.all_eq_true.1 Y9 n (List.mem_range.2 h)
 unfold j4p at this
 rw [Bool.and_eq_true]at this
 exact of_decide_eq_true this.1
theorem Vd(n:Nat)(h:n<256):bits BinOp.or IntKind.i64 (n:Int) 12=((n / 16*16+12+n % 4:Nat):Int):=by
 have:=List.all_eq_true.1 Y9 n (List.mem_range.2 h)
 unfold j4p at this
 rw [Bool.and_eq_true]at this
 exact of_decide_eq_true this.2
section
variable(v:Value)(c:Cm)(S:Nat->Prop)(w:World)(h:Jm w S v c)(h0:ql c.cl=true)(h1:ql c.ins=true)(h2:ql c.p1=true)(h3:ql c.p2=true)
include v c S w h h0 h1 h2 h3
theorem VO:
 Calls Tryz.prog 53 #[v] w fun e w'=>∃v',e=.returned v'/\BsS w' (New w w') v' (xB c.cl c.ins c.p1 c.p2)/\Below w.heap.size w w':=by
 obtain⟨u,rfl,hd⟩:=h
 obtain⟨A,n,d,rfl⟩:=hd.form
 obtain⟨cl,ins,p1,p2,data,ex⟩:=c
 simp only at h0 h1 h2 h3 |-
 have h0:=of_decide_eq_true h0;have h1:=of_decide_eq_true h1;have h2:=of_decide_eq_true h2;have h3:=of_decide_eq_true h3
 obtain⟨w0,hw0⟩:∃w0,w0=w.alloc (.cells #[.int .i64 cl,.int .i64 ins,.int .i64 p1,.int .i64 p2,.slice A n d,.int .i64 ex] 32):=⟨_,rfl⟩
 have hB0:Below w.heap.size w w0:=by rw [hw0];exact iA
 have hh0:w0.heap[w.heap.size]?=some (.cells #[.int .i64 cl,.int .i64 ins,.int .i64 p1,.int .i64 p2,.slice A n d,.int .i64 ex] 32 (0,0)):=by rw [hw0];exact iN
 have f0:w0.cell? ⟨w.heap.size,0,none⟩=some (.int .i64 cl):=by rw [cell_of_row _ _ _ _ _ _ hh0]<;>rfl
 have f1:w0.cell? ⟨w.heap.size,1,none⟩=some (.int .i64 ins):=by rw [cell_of_row _ _ _ _ _ _ hh0]<;>rfl
 have f2:w0.cell? ⟨w.heap.size,2,none⟩=some (.int .i64 p1):=by rw [cell_of_row _ _ _ _ _ _ hh0]<;>rfl
 have f3:w0.cell? ⟨w.heap.size,3,none⟩=some (.int .i64 p2):=by rw [cell_of_row _ _ _ _ _ _ hh0]<;>rfl
 have r4:=j8a w0 cl ins p1 p2
 have hal:Below w0.heap.size w0 (w0.alloc (.cells #[U8 (ofI cl),U8 (ofI ins),U8 (ofI p1),U8 (ofI p2)] 5)):=iA
 have HP:=j5s _ [ofI cl,ofI ins,ofI p1,ofI p2] (by simp) _ r4
 have v0:Value.int .u8 cl=U8 (ofI cl):=qC h0.1 h0.2
 have v1:Value.int .u8 ins=U8 (ofI ins):=qC h1.1 h1.2
 have v2:Value.int .u8 p1=U8 (ofI p1):=qC h2.1 h2.2
 have v3:Value.int .u8 p2=U8 (ofI p2):=qC h3.1 h3.2
 rw [<-v0,<-v1,<-v2,<-v3]at HP hal
 have HP:=iH HP;have HW0:=iH hw0;have HB:=iH (hB0.trans (hal.mono hB0.size))
 clear hd hw0 hB0 hh0 r4 hal v0 v1 v2 v3
 have l0:=h0.1;have l1:=h1.1;have l2:=h2.1;have l3:=h3.1
 have u0:=h0.2;have u1:=h1.2;have u2:=h2.2;have u3:=h3.2
 clear h0 h1 h2 h3
 go_enter Tryz.func53,Tryz.ntmps53
 go_upto_region 1 with fail
 rw [<-HW0.out]
 go_wp2_with(go_at_call 83;refine HP.out.mono ?_;rintro e w1 ⟨v1,rfl,hs,hb⟩;have HS:=iH hs;have HB1:=iH hb;clear hs hb f0 f1 f2 f3)
 go_ret
 exact⟨_,rfl,BsS.keep HS.out fun g hg _=>⟨rfl,Nat.le_trans HB.out.size hg.1,hg.2⟩,HB.out.trans (HB1.out.mono HB.out.size)⟩
theorem j0j:
 Calls Tryz.prog 35 #[v] w fun e w'=>∃v',e=.returned v'/\BsS w' (New w w') v' (xB c.cl c.ins c.p1 c.p2)/\Below w.heap.size w w':=by
 obtain⟨u,rfl,hd⟩:=h
 obtain⟨A,n,d,rfl⟩:=hd.form
 obtain⟨cl,ins,p1,p2,data,ex⟩:=c
 simp only at h0 h1 h2 h3 |-
 have h0:=of_decide_eq_true h0;have h1:=of_decide_eq_true h1;have h2:=of_decide_eq_true h2;have h3:=of_decide_eq_true h3
 obtain⟨w0,hw0⟩:∃w0,w0=w.alloc (.cells #[.int .i64 cl,.int .i64 ins,.int .i64 p1,.int .i64 p2,.slice A n d,.int .i64 ex] 32):=⟨_,rfl⟩
 have hB0:Below w.heap.size w w0:=by rw [hw0];exact iA
 have hh0:w0.heap[w.heap.size]?=some (.cells #[.int .i64 cl,.int .i64 ins,.int .i64 p1,.int .i64 p2,.slice A n d,.int .i64 ex] 32 (0,0)):=by rw [hw0];exact iN
 have f0:w0.cell? ⟨w.heap.size,0,none⟩=some (.int .i64 cl):=by rw [cell_of_row _ _ _ _ _ _ hh0]<;>rfl
 have f1:w0.cell? ⟨w.heap.size,1,none⟩=some (.int .i64 ins):=by rw [cell_of_row _ _ _ _ _ _ hh0]<;>rfl
 have f2:w0.cell? ⟨w.heap.size,2,none⟩=some (.int .i64 p1):=by rw [cell_of_row _ _ _ _ _ _ hh0]<;>rfl
 have f3:w0.cell? ⟨w.heap.size,3,none⟩=some (.int .i64 p2):=by rw [cell_of_row _ _ _ _ _ _ hh0]<;>rfl
 have r4:=j8a w0 cl ins p1 p2
 have hal:Below w0.heap.size w0 (w0.alloc (.cells #[U8 (ofI cl),U8 (ofI ins),U8 (ofI p1),U8 (ofI p2)] 5)):=iA
 have HP:=j3d _ [ofI cl,ofI ins,ofI p1,ofI p2] (by simp) _ r4
 have v0:Value.int .u8 cl=U8 (ofI cl):=qC h0.1 h0.2
 have v1:Value.int .u8 ins=U8 (ofI ins):=qC h1.1 h1.2
 have v2:Value.int .u8 p1=U8 (ofI p1):=qC h2.1 h2.2
 have v3:Value.int .u8 p2=U8 (ofI p2):=qC h3.1 h3.2
 rw [<-v0,<-v1,<-v2,<-v3]at HP hal
 have HP:=iH HP;have HW0:=iH hw0;have HB:=iH (hB0.trans (hal.mono hB0.size))
 clear hd hw0 hB0 hh0 r4 hal v0 v1 v2 v3
 have l0:=h0.1;have l1:=h1.1;have l2:=h2.1;have l3:=h3.1
 have u0:=h0.2;have u1:=h1.2;have u2:=h2.2;have u3:=h3.2
 clear h0 h1 h2 h3
 go_enter Tryz.func35,Tryz.ntmps35
 go_upto_region 1 with fail
 rw [<-HW0.out]
 go_wp2_with(go_at_call 64;refine HP.out.mono ?_;rintro e w1 ⟨v1,rfl,hs,hb⟩;have HS:=iH hs;have HB1:=iH hb;clear hs hb f0 f1 f2 f3)
 go_ret
 exact⟨_,rfl,BsS.keep HS.out fun g hg _=>⟨rfl,Nat.le_trans HB.out.size hg.1,hg.2⟩,HB.out.trans (HB1.out.mono HB.out.size)⟩
end
theorem j8{w:World}{p:Nat}{a b c d e f:Value}{t:TypeId}(h:w.heap[p]?=some (.cells #[a,b,c,d,e,f] t (0,0))):
 w.cell? ⟨p,0,none⟩=some a/\w.cell? ⟨p,1,none⟩=some b/\w.cell? ⟨p,2,none⟩=some c/\w.cell? ⟨p,3,none⟩=some d/\w.cell? ⟨p,4,none⟩=some e/\w.cell? ⟨p,5,none⟩=some f/\∀o,w.frozen? ⟨p,o,none⟩=false:=by
 have key:∀o v,#[a,b,c,d,e,f][o]?=some v->w.cell? ⟨p,o,none⟩=some v:=fun o v e=>by rw [cell_of_row _ _ _ _ _ _ h];exact e
 exact⟨key 0 _ rfl,key 1 _ rfl,key 2 _ rfl,key 3 _ rfl,key 4 _ rfl,key 5 _ rfl,fun o=>by simp [World.frozen?,h]⟩
def set6(w:World)(g:Nat)(a b c d e f:Value):World:=(((((w.setCell ⟨g,0,none⟩ a).setCell ⟨g,1,none⟩ b).setCell ⟨g,2,none⟩ c).setCell ⟨g,3,none⟩ d).setCell ⟨g,4,none⟩ e).setCell ⟨g,5,none⟩ f
theorem zz{w:World}{g:Nat}{x y z u v s:Value}{t:TypeId}(a b c d e f:Value)(h:w.heap[g]?=some (.cells #[x,y,z,u,v,s] t (0,0))):(set6 w g a b c d e f).heap[g]?=some (.cells #[a,b,c,d,e,f] t (0,0)):=
 jg (o:=5) (jg (o:=4) (jg (o:=3) (jg (o:=2) (jg (o:=1) (jg (o:=0) h)))))
theorem jQ{w:World}{g j:Nat}{a b c d e f:Value}(h:j≠g):(set6 w g a b c d e f).heap[j]?=w.heap[j]? :=by
 unfold set6
 rw [iO (by exact h),iO (by exact h),iO (by exact h),iO (by exact h),iO (by exact h),iO (by exact h)]
theorem Q2{w w':World}{B g:Nat}{a b c d e f:Value}(h:Below B w w')(hg:B<=g):Below B w (set6 w' g a b c d e f):=(((((h.setCell hg _).setCell hg _).setCell hg _).setCell hg _).setCell hg _).setCell hg _
theorem qq(w:World)(g:Nat)(a b c d e f:Value):(set6 w g a b c d e f).heap.size=w.heap.size:=by simp [set6]
theorem kW(w:World)(g:Nat)(a b c:Value):(set3 w g a b c).heap.size=w.heap.size:=by simp [set3]
theorem ZB{a b c d f:Int}{A:Option Addr}{n k:Nat}:noB #[.int .i64 a,.int .i64 b,.int .i64 c,.int .i64 d,.slice A n k,.int .i64 f]:=by
 intro i x
 rcases i with _|_|_|_|_|_|i
 all_goals
  simp
theorem jq{W:World}{p:Nat}{t t':TypeId}{x0 x1 x2 x3 x4 x5 y0 y1 y2:Value}(h2:W.heap[p]?=some (.cells #[x0,x1,x2,x3,x4,x5] t (0,0)))(h3:W.heap[p+1]?=some (.cells #[y0,y1,y2] t' (0,0)))(a b c d e f x y z:Value):
 (set3 (set6 W p a b c d e f) (p+1) x y z).heap[p]?=some (.cells #[a,b,c,d,e,f] t (0,0))/\(set3 (set6 W p a b c d e f) (p+1) x y z).heap[p+1]?=some (.cells #[x,y,z] t' (0,0)):=
 ⟨(jC (by omega)).trans (zz _ _ _ _ _ _ h2),qa _ _ _ ((jQ (by omega)).trans h3)⟩
theorem JA{W:World}{p:Nat}{t t':TypeId}{a0 b0 c0 d0 f0 k0:Int}{A B C:Option Addr}{n m q i j l:Nat}(h2:W.heap[p]?=some (.cells #[.int .i64 a0,.int .i64 b0,.int .i64 c0,.int .i64 d0,.slice A n i,.int .i64 f0] t (0,0)))(h3:W.heap[p+1]?=some (.cells #[.slice B m j,.slice C q l,.int .i64 k0] t' (0,0)))(a b c d e f x y z:Value){v:Value}{L:List UInt8}(hv:Bs W W.heap.size v L):Bs (set3 (set6 W p a b c d e f) (p+1) x y z) (set3 (set6 W p a b c d e f) (p+1) x y z).heap.size v L:=
 BsS.keep ((hv.off h2 ZB).off h3 (j5e B C m q j l k0)) fun g hs _=>⟨(jC hs.2).trans (jQ hs.1.2),by rw [kW,qq];exact hs.1.1⟩
theorem jk{W w:World}{B p:Nat}{a b c d e f x y z:Value}(h:Below B w W)(hp:B<=p):Below B w (set3 (set6 W p a b c d e f) (p+1) x y z):=kV (Q2 h hp) (by omega)
def J6(wd:World)(p s:Nat)(a b c d e f:Value)(L:Nat->Bool)(_:Nat->Value)(w1:World):Prop:=w1=if L s=true then set6 wd p a b c d e f else wd
section
variable {wd w1:World} {p s:Nat} {a b c d e f:Value} {L:Nat->Bool} {v v':Nat->Value}
section
variable(h:J6 wd p s a b c d e f L v w1)
include h
theorem J6.step(i:Nat)(hi:s≠i):J6 wd p s a b c d e f (ji L i) v' w1:=by
 exact m3i
theorem J6.store(hL:L s=false):J6 wd p s a b c d e f (ji L s) v' (set6 w1 p a b c d e f):=by
 have hq:ji L s s=true:=by unfold ji;exact iT rfl
 have h2:w1=if L s=true then set6 wd p a b c d e f else wd:=h
 rw [hL]at h2
 have h3:w1=wd:=h2
 show set6 w1 p a b c d e f=if ji L s s=true then _ else _
 rw [hq,h3]
 exact(iT rfl).symm
theorem J6.row{j:Nat}(hj:j≠p):w1.heap[j]?=wd.heap[j]? :=by
 unfold J6 at h
 split at h
 ·rw [h];exact jQ hj
 ·rw [h]
theorem J6.old(hL:L s=false):w1=wd:=by
 unfold J6 at h
 rw [hL]at h
 exact h
theorem J6.all(hL:L s=true):w1=set6 wd p a b c d e f:=by
 unfold J6 at h
 rw [hL]at h
 exact h
end
end
theorem zj(w:World):(w.alloc (.cells #[.slice none 0 0,.slice none 0 0,.int .i64 0,.slice none 0 0] 77)).heap[w.heap.size]?=some (.cells #[.slice none 0 0,.slice none 0 0,.int .i64 0,.slice none 0 0] 77 (0,0)):=iN
theorem x9(w:World):(w.alloc (.cells #[.int .i64 0,.int .i64 0,.int .i64 0,.int .i64 0,.slice none 0 0,.int .i64 0] 32)).heap[w.heap.size]?=some (.cells #[.int .i64 0,.int .i64 0,.int .i64 0,.int .i64 0,.slice none 0 0,.int .i64 0] 32 (0,0)):=iN
theorem j2d:kB 151:=⟨by decide,by decide⟩
def zC:Cm:=⟨0,0,0,0,[],0⟩
def Jo(cl:Int):Bool:=decide (cl / 4 % 4=0)&&decide (cl≠243)
def qf(ex:Int):Ns:=if ex= -1 then .nil else .cons 151 (if 256<ex then zI (ex % 65536)else Ux (ex % 256)) .nil .nil
def qd(k1 k2:List UInt8)(n:Int)(c:Cm):Int×Cm×List UInt8×List UInt8×Int:=
 if vS k1 k2 n=false then(14,zC,[],[],0)
 else if vC c=false then(14,zC,[],[],0)
 else if Jo c.cl=false then(14,zC,[],[],0)
 else if n=1099511627776 then(3,zC,[],[],0)
 else match x6 k2 (Jh (n+1)) (xB (c.cl+12) c.ins c.p1 c.p2) ((j6 k1 (Jh (n+1)) c.data).app (qf c.ex))with
  |.error e=>(e,zC,[],[],0)
  |.ok b=>(0,⟨c.cl+12,c.ins,c.p1,c.p2,b,65536⟩,k1,k2,n+1)
def yN(r:Int×Cm×List UInt8×List UInt8×Int)(w:World)(e:Ending)(w':World):Prop:=
 ∃v s,e=.returned (.tuple #[v,s,.int .i64 r.1])/\Jm w' (·<w'.heap.size) v r.2.1/\qs w' (·<w'.heap.size) s r.2.2.1 r.2.2.2.1 r.2.2.2.2/\Below w.heap.size w w'
end Go.Proofs.YtadndhgebgjlaaaGreat
