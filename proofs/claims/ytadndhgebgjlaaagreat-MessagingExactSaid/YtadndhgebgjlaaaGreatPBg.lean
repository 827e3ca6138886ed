/- The padded beginning of a command, both sides; bits of a class; Words for two results: a command and a session; The worlds behind the entry of Wrap and Unwra... -/
import Derived.Test.YtadndhgebgjlaaaGreatPBe
import Derived.Test.YtadndhgebgjlaaaGreatPBf
set_option linter.all false
set_option maxRecDepth 100000
set_option maxHeartbeats 3000000
namespace Go.Proofs.YtadndhgebgjlaaaGreat
open Go.RowKit Go.Deep
def xr(cl ins p1 p2:Int):List UInt8:=xP [ofI cl,ofI ins,ofI p1,ofI p2]
theorem zY(cl ins p1 p2:Int):(xr cl ins p1 p2).length=16:=rfl
theorem j6o(w:World)(a b c d:Int):Bs (w.alloc (.cells #[U8 (ofI a),U8 (ofI b),U8 (ofI c),U8 (ofI d)] 5)) (w.alloc (.cells #[U8 (ofI a),U8 (ofI b),U8 (ofI c),U8 (ofI d)] 5)).heap.size (.slice (some ⟨w.heap.size,0,none⟩) 4 4) [ofI a,ofI b,ofI c,ofI d]:=
 BsS.fresh w [ofI a,ofI b,ofI c,ofI d] #[U8 (ofI a),U8 (ofI b),U8 (ofI c),U8 (ofI d)] 5 rfl _ (by simp) (by simp)
def j3a(n:Nat):Bool:=decide (bits BinOp.and IntKind.i64 (n:Int) 12=((n / 4 % 4*4:Nat):Int))&&decide (bits BinOp.or IntKind.i64 (n:Int) 12=((n / 16*16+12+n % 4:Nat):Int))
theorem Zz:((List.range 256).all j3a)=true:=by decide+kernel
theorem Jf(n:Nat)(h:n<256):bits BinOp.and IntKind.i64 (n:Int) 12=((n / 4 % 4*4:Nat):Int):=by
 have:=List.all_eq_true.1 Zz n (List.mem_range.2 h)
 unfold j3a at this
 rw [Bool.and_eq_true]at this
 exact of_decide_eq_true this.1
theorem Uv(n:Nat)(h:n<256):bits BinOp.or IntKind.i64 (n:Int) 12=((n / 16*16+12+n % 4:Nat):Int):=by
 have:=List.all_eq_true.1 Zz n (List.mem_range.2 h)
 unfold j3a at this
 rw [Bool.and_eq_true]at this
 exact of_decide_eq_true this.2
theorem V6(v:Value)(c:Cm)(S:Nat->Prop)(w:World)(h:yx w S v c)(h0:qg c.cl=true)(h1:qg c.ins=true)(h2:qg c.p1=true)(h3:qg c.p2=true):
 Calls Tryz.prog 53 #[v] w fun e w'=>∃v',e=.returned v'/\BsS w' (New w w') v' (xr c.cl c.ins c.p1 c.p2)/\Below w.heap.size w w':=by
 obtain⟨u,rfl,hd⟩:=h
 obtain⟨A,n,d,rfl⟩:=hd.form
 obtain⟨cl,ins,p1,p2,data,ex⟩:=c
 simp only at h0 h1 h2 h3 |-
 have h0:=of_decide_eq_true h0;have h1:=of_decide_eq_true h1;have h2:=of_decide_eq_true h2;have h3:=of_decide_eq_true h3
 obtain⟨w0,hw0⟩:∃w0,w0=w.alloc (.cells #[.int .i64 cl,.int .i64 ins,.int .i64 p1,.int .i64 p2,.slice A n d,.int .i64 ex] 32):=⟨_,rfl⟩
 have hB0:Below w.heap.size w w0:=by rw [hw0];exact iA
 have hh0:w0.heap[w.heap.size]?=some (.cells #[.int .i64 cl,.int .i64 ins,.int .i64 p1,.int .i64 p2,.slice A n d,.int .i64 ex] 32 (0,0)):=by rw [hw0];exact iN
 have f0:w0.cell? ⟨w.heap.size,0,none⟩=some (.int .i64 cl):=by rw [cell_of_row _ _ _ _ _ _ hh0]<;>rfl
 have f1:w0.cell? ⟨w.heap.size,1,none⟩=some (.int .i64 ins):=by rw [cell_of_row _ _ _ _ _ _ hh0]<;>rfl
 have f2:w0.cell? ⟨w.heap.size,2,none⟩=some (.int .i64 p1):=by rw [cell_of_row _ _ _ _ _ _ hh0]<;>rfl
 have f3:w0.cell? ⟨w.heap.size,3,none⟩=some (.int .i64 p2):=by rw [cell_of_row _ _ _ _ _ _ hh0]<;>rfl
 have r4:=j6o w0 cl ins p1 p2
 have hal:Below w0.heap.size w0 (w0.alloc (.cells #[U8 (ofI cl),U8 (ofI ins),U8 (ofI p1),U8 (ofI p2)] 5)):=iA
 have HP:=j49 _ [ofI cl,ofI ins,ofI p1,ofI p2] (by simp) _ r4
 have v0:Value.int .u8 cl=U8 (ofI cl):=qQ h0.1 h0.2
 have v1:Value.int .u8 ins=U8 (ofI ins):=qQ h1.1 h1.2
 have v2:Value.int .u8 p1=U8 (ofI p1):=qQ h2.1 h2.2
 have v3:Value.int .u8 p2=U8 (ofI p2):=qQ h3.1 h3.2
 rw [<-v0,<-v1,<-v2,<-v3]at HP hal
 have HP:=iH HP;have HW0:=iH hw0;have HB:=iH (hB0.trans (hal.mono hB0.size))
 clear hd hw0 hB0 hh0 r4 hal v0 v1 v2 v3
 have l0:=h0.1;have l1:=h1.1;have l2:=h2.1;have l3:=h3.1
 have u0:=h0.2;have u1:=h1.2;have u2:=h2.2;have u3:=h3.2
 clear h0 h1 h2 h3
 go_enter Tryz.func53,Tryz.ntmps53
 go_upto_region 1 with fail
 rw [<-HW0.out]
 go_wp2_with(go_at_call 83;refine HP.out.mono ?_;rintro e w1 ⟨v1,rfl,hs,hb⟩;have HS:=iH hs;have HB1:=iH hb;clear hs hb f0 f1 f2 f3)
 go_ret
 exact⟨_,rfl,BsS.keep HS.out fun g hg _=>⟨rfl,Nat.le_trans HB.out.size hg.1,hg.2⟩,HB.out.trans (HB1.out.mono HB.out.size)⟩
theorem Vy(v:Value)(c:Cm)(S:Nat->Prop)(w:World)(h:yx w S v c)(h0:qg c.cl=true)(h1:qg c.ins=true)(h2:qg c.p1=true)(h3:qg c.p2=true):
 Calls Tryz.prog 35 #[v] w fun e w'=>∃v',e=.returned v'/\BsS w' (New w w') v' (xr c.cl c.ins c.p1 c.p2)/\Below w.heap.size w w':=by
 obtain⟨u,rfl,hd⟩:=h
 obtain⟨A,n,d,rfl⟩:=hd.form
 obtain⟨cl,ins,p1,p2,data,ex⟩:=c
 simp only at h0 h1 h2 h3 |-
 have h0:=of_decide_eq_true h0;have h1:=of_decide_eq_true h1;have h2:=of_decide_eq_true h2;have h3:=of_decide_eq_true h3
 obtain⟨w0,hw0⟩:∃w0,w0=w.alloc (.cells #[.int .i64 cl,.int .i64 ins,.int .i64 p1,.int .i64 p2,.slice A n d,.int .i64 ex] 32):=⟨_,rfl⟩
 have hB0:Below w.heap.size w w0:=by rw [hw0];exact iA
 have hh0:w0.heap[w.heap.size]?=some (.cells #[.int .i64 cl,.int .i64 ins,.int .i64 p1,.int .i64 p2,.slice A n d,.int .i64 ex] 32 (0,0)):=by rw [hw0];exact iN
 have f0:w0.cell? ⟨w.heap.size,0,none⟩=some (.int .i64 cl):=by rw [cell_of_row _ _ _ _ _ _ hh0]<;>rfl
 have f1:w0.cell? ⟨w.heap.size,1,none⟩=some (.int .i64 ins):=by rw [cell_of_row _ _ _ _ _ _ hh0]<;>rfl
 have f2:w0.cell? ⟨w.heap.size,2,none⟩=some (.int .i64 p1):=by rw [cell_of_row _ _ _ _ _ _ hh0]<;>rfl
 have f3:w0.cell? ⟨w.heap.size,3,none⟩=some (.int .i64 p2):=by rw [cell_of_row _ _ _ _ _ _ hh0]<;>rfl
 have r4:=j6o w0 cl ins p1 p2
 have hal:Below w0.heap.size w0 (w0.alloc (.cells #[U8 (ofI cl),U8 (ofI ins),U8 (ofI p1),U8 (ofI p2)] 5)):=iA
 have HP:=j26 _ [ofI cl,ofI ins,ofI p1,ofI p2] (by simp) _ r4
 have v0:Value.int .u8 cl=U8 (ofI cl):=qQ h0.1 h0.2
 have v1:Value.int .u8 ins=U8 (ofI ins):=qQ h1.1 h1.2
 have v2:Value.int .u8 p1=U8 (ofI p1):=qQ h2.1 h2.2
 have v3:Value.int .u8 p2=U8 (ofI p2):=qQ h3.1 h3.2
 rw [<-v0,<-v1,<-v2,<-v3]at HP hal
 have HP:=iH HP;have HW0:=iH hw0;have HB:=iH (hB0.trans (hal.mono hB0.size))
 clear hd hw0 hB0 hh0 r4 hal v0 v1 v2 v3
 have l0:=h0.1;have l1:=h1.1;have l2:=h2.1;have l3:=h3.1
 have u0:=h0.2;have u1:=h1.2;have u2:=h2.2;have u3:=h3.2
 clear h0 h1 h2 h3
 go_enter Tryz.func35,Tryz.ntmps35
 go_upto_region 1 with fail
 rw [<-HW0.out]
 go_wp2_with(go_at_call 64;refine HP.out.mono ?_;rintro e w1 ⟨v1,rfl,hs,hb⟩;have HS:=iH hs;have HB1:=iH hb;clear hs hb f0 f1 f2 f3)
 go_ret
 exact⟨_,rfl,BsS.keep HS.out fun g hg _=>⟨rfl,Nat.le_trans HB.out.size hg.1,hg.2⟩,HB.out.trans (HB1.out.mono HB.out.size)⟩
theorem ja{w:World}{p:Nat}{a b c d e f:Value}{t:TypeId}(h:w.heap[p]?=some (.cells #[a,b,c,d,e,f] t (0,0))):
 w.cell? ⟨p,0,none⟩=some a/\w.cell? ⟨p,1,none⟩=some b/\w.cell? ⟨p,2,none⟩=some c/\w.cell? ⟨p,3,none⟩=some d/\w.cell? ⟨p,4,none⟩=some e/\w.cell? ⟨p,5,none⟩=some f/\∀o,w.frozen? ⟨p,o,none⟩=false:=by
 have key:∀o v,#[a,b,c,d,e,f][o]?=some v->w.cell? ⟨p,o,none⟩=some v:=fun o v e=>by rw [cell_of_row _ _ _ _ _ _ h];exact e
 exact⟨key 0 _ rfl,key 1 _ rfl,key 2 _ rfl,key 3 _ rfl,key 4 _ rfl,key 5 _ rfl,fun o=>by simp [World.frozen?,h]⟩
def set6(w:World)(g:Nat)(a b c d e f:Value):World:=(((((w.setCell ⟨g,0,none⟩ a).setCell ⟨g,1,none⟩ b).setCell ⟨g,2,none⟩ c).setCell ⟨g,3,none⟩ d).setCell ⟨g,4,none⟩ e).setCell ⟨g,5,none⟩ f
theorem Qw{w:World}{g:Nat}{x y z u v s:Value}{t:TypeId}(a b c d e f:Value)(h:w.heap[g]?=some (.cells #[x,y,z,u,v,s] t (0,0))):(set6 w g a b c d e f).heap[g]?=some (.cells #[a,b,c,d,e,f] t (0,0)):=
 jg (o:=5) (jg (o:=4) (jg (o:=3) (jg (o:=2) (jg (o:=1) (jg (o:=0) h)))))
theorem kH{w:World}{g j:Nat}{a b c d e f:Value}(h:j≠g):(set6 w g a b c d e f).heap[j]?=w.heap[j]? :=by
 unfold set6
 rw [iO (by exact h),iO (by exact h),iO (by exact h),iO (by exact h),iO (by exact h),iO (by exact h)]
theorem KL{w w':World}{B g:Nat}{a b c d e f:Value}(h:Below B w w')(hg:B<=g):Below B w (set6 w' g a b c d e f):=(((((h.setCell hg _).setCell hg _).setCell hg _).setCell hg _).setCell hg _).setCell hg _
theorem Ka(w:World)(g:Nat)(a b c d e f:Value):(set6 w g a b c d e f).heap.size=w.heap.size:=by simp [set6]
theorem zl(w:World)(g:Nat)(a b c:Value):(set3 w g a b c).heap.size=w.heap.size:=by simp [set3]
theorem j4u{a b c d f:Int}{A:Option Addr}{n k:Nat}:noB #[.int .i64 a,.int .i64 b,.int .i64 c,.int .i64 d,.slice A n k,.int .i64 f]:=by
 intro i x
 rcases i with _|_|_|_|_|_|i
 ·simp
 ·simp
 ·simp
 ·simp
 ·simp
 ·simp
 ·simp
theorem jo{W:World}{p:Nat}{t t':TypeId}{x0 x1 x2 x3 x4 x5 y0 y1 y2:Value}(h2:W.heap[p]?=some (.cells #[x0,x1,x2,x3,x4,x5] t (0,0)))(h3:W.heap[p+1]?=some (.cells #[y0,y1,y2] t' (0,0)))(a b c d e f x y z:Value):
 (set3 (set6 W p a b c d e f) (p+1) x y z).heap[p]?=some (.cells #[a,b,c,d,e,f] t (0,0))/\(set3 (set6 W p a b c d e f) (p+1) x y z).heap[p+1]?=some (.cells #[x,y,z] t' (0,0)):=
 ⟨(jS (by omega)).trans (Qw _ _ _ _ _ _ h2),qu _ _ _ ((kH (by omega)).trans h3)⟩
theorem Jo{W:World}{p:Nat}{t t':TypeId}{a0 b0 c0 d0 f0 k0:Int}{A B C:Option Addr}{n m q i j l:Nat}(h2:W.heap[p]?=some (.cells #[.int .i64 a0,.int .i64 b0,.int .i64 c0,.int .i64 d0,.slice A n i,.int .i64 f0] t (0,0)))(h3:W.heap[p+1]?=some (.cells #[.slice B m j,.slice C q l,.int .i64 k0] t' (0,0)))(a b c d e f x y z:Value)
 {v:Value} {L:List UInt8} (hv:Bs W W.heap.size v L):Bs (set3 (set6 W p a b c d e f) (p+1) x y z) (set3 (set6 W p a b c d e f) (p+1) x y z).heap.size v L:=
 BsS.keep ((hv.off h2 j4u).off h3 (j4t B C m q j l k0)) fun g hs _=>⟨(jS hs.2).trans (kH hs.1.2),by rw [zl,Ka];exact hs.1.1⟩
theorem jj{W w:World}{B p:Nat}{a b c d e f x y z:Value}(h:Below B w W)(hp:B<=p):Below B w (set3 (set6 W p a b c d e f) (p+1) x y z):=kQ (KL h hp) (by omega)
def J6(wd:World)(p s:Nat)(a b c d e f:Value)(L:Nat->Bool)(_:Nat->Value)(w1:World):Prop:=w1=if L s=true then set6 wd p a b c d e f else wd
section
variable {wd w1:World} {p s:Nat} {a b c d e f:Value} {L:Nat->Bool} {v v':Nat->Value}
theorem J6.step(h:J6 wd p s a b c d e f L v w1)(i:Nat)(hi:s≠i):J6 wd p s a b c d e f (jp L i) v' w1:=by
 have hq:jp L i s=L s:=by unfold jp;exact iF hi
 show w1=if jp L i s=true then _ else _
 rw [hq]
 exact h
theorem J6.store(h:J6 wd p s a b c d e f L v w1)(hL:L s=false):J6 wd p s a b c d e f (jp L s) v' (set6 w1 p a b c d e f):=by
 have hq:jp L s s=true:=by unfold jp;exact iT rfl
 have h2:w1=if L s=true then set6 wd p a b c d e f else wd:=h
 rw [hL]at h2
 have h3:w1=wd:=h2
 show set6 w1 p a b c d e f=if jp L s s=true then _ else _
 rw [hq,h3]
 exact(iT rfl).symm
theorem J6.row(h:J6 wd p s a b c d e f L v w1){j:Nat}(hj:j≠p):w1.heap[j]?=wd.heap[j]? :=by
 unfold J6 at h
 split at h
 ·rw [h];exact kH hj
 ·rw [h]
theorem J6.old(h:J6 wd p s a b c d e f L v w1)(hL:L s=false):w1=wd:=by
 unfold J6 at h
 rw [hL]at h
 exact h
theorem J6.all(h:J6 wd p s a b c d e f L v w1)(hL:L s=true):w1=set6 wd p a b c d e f:=by
 unfold J6 at h
 rw [hL]at h
 exact h
end
theorem xZ(w:World):(w.alloc (.cells #[.slice none 0 0,.slice none 0 0,.int .i64 0,.slice none 0 0] 77)).heap[w.heap.size]?=some (.cells #[.slice none 0 0,.slice none 0 0,.int .i64 0,.slice none 0 0] 77 (0,0)):=iN
theorem qW(w:World):(w.alloc (.cells #[.int .i64 0,.int .i64 0,.int .i64 0,.int .i64 0,.slice none 0 0,.int .i64 0] 32)).heap[w.heap.size]?=some (.cells #[.int .i64 0,.int .i64 0,.int .i64 0,.int .i64 0,.slice none 0 0,.int .i64 0] 32 (0,0)):=iN
theorem j1a:kS 151:=⟨by decide,by decide⟩
def zC:Cm:=⟨0,0,0,0,[],0⟩
def Jb(cl:Int):Bool:=decide (cl / 4 % 4=0)&&decide (cl≠243)
def q8(ex:Int):Ns:=if ex= -1 then .nil else .cons 151 (if 256<ex then zu (ex % 65536)else YV (ex % 256)) .nil .nil
def q6(k1 k2:List UInt8)(n:Int)(c:Cm):Int×Cm×List UInt8×List UInt8×Int:=
 if vS k1 k2 n=false then(14,zC,[],[],0)
 else if vC c=false then(14,zC,[],[],0)
 else if Jb c.cl=false then(14,zC,[],[],0)
 else if n=1099511627776 then(3,zC,[],[],0)
 else match qT k2 (J3 (n+1)) (xr (c.cl+12) c.ins c.p1 c.p2) ((j6 k1 (J3 (n+1)) c.data).app (q8 c.ex))with
  |.error e=>(e,zC,[],[],0)
  |.ok b=>(0,⟨c.cl+12,c.ins,c.p1,c.p2,b,65536⟩,k1,k2,n+1)
def yy(r:Int×Cm×List UInt8×List UInt8×Int)(w:World)(e:Ending)(w':World):Prop:=
 ∃v s,e=.returned (.tuple #[v,s,.int .i64 r.1])/\yx w' (·<w'.heap.size) v r.2.1/\qa w' (·<w'.heap.size) s r.2.2.1 r.2.2.2.1 r.2.2.2.2/\Below w.heap.size w w'
theorem j5s{w:World}{vs vc:Value}{k1 k2:List UInt8}{n cl ins p1 p2 ex:Int}{data:List UInt8}(hs:qa w (·<w.heap.size) vs k1 k2 n)(hc:yx w (·<w.heap.size) vc ⟨cl,ins,p1,p2,data,ex⟩):
 ∃A1 d1 A2 d2 A3 d3 ws wq w2 wa,vs=.agg #[.slice A1 k1.length d1,.slice A2 k2.length d2,.int .i64 n]/\vc=.agg #[.int .i64 cl,.int .i64 ins,.int .i64 p1,.int .i64 p2,.slice A3 data.length d3,.int .i64 ex]/\Hid (∀W,Below wa.heap.size wa W->W.heap[(w.heap.size+1+1)]?=some (.cells #[.int .i64 0,.int .i64 0,.int .i64 0,.int .i64 0,.slice none 0 0,.int .i64 0] 32 (0,0)))/\Hid (∀W,Below wa.heap.size wa W->W.heap[(w.heap.size+1+1+1)]?=some (.cells #[.slice none 0 0,.slice none 0 0,.int .i64 0] 29 (0,0)))/\Hid (∀W,Below wa.heap.size wa W->W.cell? ⟨w.heap.size,0,none⟩=some (.slice A1 k1.length d1)/\W.cell? ⟨w.heap.size,1,none⟩=some (.slice A2 k2.length d2)/\W.cell? ⟨w.heap.size,2,none⟩=some (.int .i64 n))/\Hid (∀W,Below wa.heap.size wa W->W.cell? ⟨w.heap.size+1,0,none⟩=some (.int .i64 cl)/\W.cell? ⟨w.heap.size+1,1,none⟩=some (.int .i64 ins)/\W.cell? ⟨w.heap.size+1,2,none⟩=some (.int .i64 p1)/\W.cell? ⟨w.heap.size+1,3,none⟩=some (.int .i64 p2)/\W.cell? ⟨w.heap.size+1,4,none⟩=some (.slice A3 data.length d3)/\W.cell? ⟨w.heap.size+1,5,none⟩=some (.int .i64 ex))/\Hid (wa.heap.size=w.heap.size+1+1+1+1)/\Hid (Below w.heap.size w wa)/\Hid (ws=w.alloc (.cells #[.slice A1 k1.length d1,.slice A2 k2.length d2,.int .i64 n] 29))/\Hid (wq=ws.alloc (.cells #[.int .i64 cl,.int .i64 ins,.int .i64 p1,.int .i64 p2,.slice A3 data.length d3,.int .i64 ex] 32))/\Hid (w2=wq.alloc (.cells #[.int .i64 0,.int .i64 0,.int .i64 0,.int .i64 0,.slice none 0 0,.int .i64 0] 32))/\Hid (wa=w2.alloc (.cells #[.slice none 0 0,.slice none 0 0,.int .i64 0] 29))/\Hid (Bs wa wa.heap.size (.slice A1 k1.length d1) k1)/\Hid (Bs wa wa.heap.size (.slice A2 k2.length d2) k2)/\Hid (Bs wa wa.heap.size (.slice A3 data.length d3) data)/\Hid (qa wa (·<wa.heap.size) (.agg #[.slice A1 k1.length d1,.slice A2 k2.length d2,.int .i64 n]) k1 k2 n)/\Hid (∀W,Below wa.heap.size wa W->yx W (·<W.heap.size) (.agg #[.int .i64 cl,.int .i64 ins,.int .i64 p1,.int .i64 p2,.slice A3 data.length d3,.int .i64 ex]) ⟨cl,ins,p1,p2,data,ex⟩):=by
 obtain⟨ua,ub,rfl,ha,hb⟩:=hs
 obtain⟨ud,rfl,hd⟩:=hc
 obtain⟨A1,n1,d1,rfl⟩:=ha.form
 obtain⟨A2,n2,d2,rfl⟩:=hb.form
 obtain⟨A3,n3,d3,rfl⟩:=hd.form
 simp only at hd
 obtain rfl:=Bs.lenEq ha
 obtain rfl:=Bs.lenEq hb
 obtain rfl:=Bs.lenEq hd
 obtain⟨ws,hws⟩:∃ws,ws=w.alloc (.cells #[.slice A1 k1.length d1,.slice A2 k2.length d2,.int .i64 n] 29):=⟨_,rfl⟩
 obtain⟨wq,hwq⟩:∃wq,wq=ws.alloc (.cells #[.int .i64 cl,.int .i64 ins,.int .i64 p1,.int .i64 p2,.slice A3 data.length d3,.int .i64 ex] 32):=⟨_,rfl⟩
 obtain⟨w2,hw2⟩:∃w2,w2=wq.alloc (.cells #[.int .i64 0,.int .i64 0,.int .i64 0,.int .i64 0,.slice none 0 0,.int .i64 0] 32):=⟨_,rfl⟩
 obtain⟨wa,hwa⟩:∃wa,wa=w2.alloc (.cells #[.slice none 0 0,.slice none 0 0,.int .i64 0] 29):=⟨_,rfl⟩
 have zs:ws.heap.size=w.heap.size+1:=by rw [hws];simp
 have zq:wq.heap.size=w.heap.size+1+1:=by rw [hwq];simp [zs]
 have z2:w2.heap.size=w.heap.size+1+1+1:=by rw [hw2];simp [zq]
 have za:wa.heap.size=w.heap.size+1+1+1+1:=by rw [hwa];simp [z2]
 have b1:Below w.heap.size w ws:=by rw [hws];exact iA
 have b2:Below ws.heap.size ws wq:=by rw [hwq];exact iA
 have b3:Below wq.heap.size wq w2:=by rw [hw2];exact iA
 have b4:Below w2.heap.size w2 wa:=by rw [hwa];exact iA
 have q1:ws.heap[w.heap.size]?=some (.cells #[.slice A1 k1.length d1,.slice A2 k2.length d2,.int .i64 n] 29 (0,0)):=by rw [hws];exact iN
 have q2:wq.heap[w.heap.size+1]?=some (.cells #[.int .i64 cl,.int .i64 ins,.int .i64 p1,.int .i64 p2,.slice A3 data.length d3,.int .i64 ex] 32 (0,0)):=by rw [hwq,<-zs];exact iN
 have q3:w2.heap[(w.heap.size+1+1)]?=some (.cells #[.int .i64 0,.int .i64 0,.int .i64 0,.int .i64 0,.slice none 0 0,.int .i64 0] 32 (0,0)):=by rw [hw2,<-zq];exact iN
 have q4:wa.heap[(w.heap.size+1+1+1)]?=some (.cells #[.slice none 0 0,.slice none 0 0,.int .i64 0] 29 (0,0)):=by rw [hwa,<-z2];exact iN
 have e3:=(b4.block (w.heap.size+1+1) (by omega)).trans q3
 have e2:=(b4.block (w.heap.size+1) (by omega)).trans ((b3.block (w.heap.size+1) (by omega)).trans q2)
 have e1:=(b4.block w.heap.size (by omega)).trans ((b3.block w.heap.size (by omega)).trans ((b2.block w.heap.size (by omega)).trans q1))
 have hB:Below w.heap.size w wa:=b1.trans ((b2.trans ((b3.trans (b4.mono b3.size)).mono b2.size)).mono b1.size)
 have R2:Hid (∀W,Below wa.heap.size wa W->W.heap[(w.heap.size+1+1)]?=some (.cells #[.int .i64 0,.int .i64 0,.int .i64 0,.int .i64 0,.slice none 0 0,.int .i64 0] 32 (0,0))):=iH fun W h=>(h.block _ (by omega)).trans e3
 have R3:Hid (∀W,Below wa.heap.size wa W->W.heap[(w.heap.size+1+1+1)]?=some (.cells #[.slice none 0 0,.slice none 0 0,.int .i64 0] 29 (0,0))):=iH fun W h=>(h.block _ (by omega)).trans q4
 have CS:Hid (∀W,Below wa.heap.size wa W->W.cell? ⟨w.heap.size,0,none⟩=some (.slice A1 k1.length d1)/\W.cell? ⟨w.heap.size,1,none⟩=some (.slice A2 k2.length d2)/\W.cell? ⟨w.heap.size,2,none⟩=some (.int .i64 n)):=iH fun W h=>(by obtain⟨a,b,c,_⟩:=j7 ((h.block w.heap.size (by omega)).trans e1);exact⟨a,b,c⟩)
 have CC:Hid (∀W,Below wa.heap.size wa W->W.cell? ⟨w.heap.size+1,0,none⟩=some (.int .i64 cl)/\W.cell? ⟨w.heap.size+1,1,none⟩=some (.int .i64 ins)/\W.cell? ⟨w.heap.size+1,2,none⟩=some (.int .i64 p1)/\W.cell? ⟨w.heap.size+1,3,none⟩=some (.int .i64 p2)/\W.cell? ⟨w.heap.size+1,4,none⟩=some (.slice A3 data.length d3)/\W.cell? ⟨w.heap.size+1,5,none⟩=some (.int .i64 ex)):=iH fun W h=>(by obtain⟨a,b,c,d,e,f,_⟩:=ja ((h.block (w.heap.size+1) (by omega)).trans e2);exact⟨a,b,c,d,e,f⟩)
 have HZA:=iH za
 have HB:=iH hB;have HWS:=iH hws;have HWC:=iH hwq;have HW2:=iH hw2;have HW3:=iH hwa
 have H1:=iH (Bs.lift ha hB);have H2:=iH (Bs.lift hb hB);have H3:=iH (Bs.lift hd hB)
 have HSV:Hid (qa wa (·<wa.heap.size) (.agg #[.slice A1 k1.length d1,.slice A2 k2.length d2,.int .i64 n]) k1 k2 n):=iH ⟨_,_,rfl,H1.out,H2.out⟩
 have HCV:Hid (∀W,Below wa.heap.size wa W->yx W (·<W.heap.size) (.agg #[.int .i64 cl,.int .i64 ins,.int .i64 p1,.int .i64 p2,.slice A3 data.length d3,.int .i64 ex]) ⟨cl,ins,p1,p2,data,ex⟩):=iH fun W h=>⟨_,rfl,H3.out.lift h⟩
 exact⟨A1,d1,A2,d2,A3,d3,ws,wq,w2,wa,rfl,rfl,R2,R3,CS,CC,HZA,HB,HWS,HWC,HW2,HW3,H1,H2,H3,HSV,HCV⟩
theorem ZT(v:Value)(cl ins p1 p2:Int)(data:List UInt8)(ex:Int)(S:Nat->Prop)(w:World)(h:yx w S v ⟨cl,ins,p1,p2,data,ex⟩)(h0:qg cl=true)(h1:qg ins=true)(h2:qg p1=true)(h3:qg p2=true):
 Calls Tryz.prog 53 #[v] w fun e w'=>∃v',e=.returned v'/\BsS w' (New w w') v' (xr cl ins p1 p2)/\Below w.heap.size w w':=V6 v ⟨cl,ins,p1,p2,data,ex⟩ S w h h0 h1 h2 h3
theorem j2x{m:Nat}(h:m<243):qg ((m:Int)+12)=true:=decide_eq_true (by omega)
theorem Xy{k2 N head:List UInt8}{L:Ns}{x:Int}(h:qT k2 N head L=.error x):(x==0)=false:=by
 unfold qT at h
 split at h
 ·rename_i e he;injection h with h;rw [<-h];exact Q6 he
 ·exact Q6 h
theorem j3t(n:Nat)(h:n<=65535):(xk n).length<=3:=by
 rw [x6 h]
 split
 ·simp
 ·split<;>simp
theorem zi(t:Int)(v:List UInt8)(R:Ns)(ht:jY t=false)(h2:t<=255)(hv:v.length<=65535):(Ns.cons t v .nil R).enc.length<=4+v.length+R.enc.length:=by
 simp only [Ns.enc,ht]
 have h1:(km t).length=1:=by unfold km;rw [iF (by omega)]<;>rfl
 have h3:=j3t v.length hv
 simp [h1]
 omega
theorem yR(k V d:List UInt8):(kY k V (xP d)).length=16*((d.length+1+zv d.length) / 16):=by rw [xw k V (xP d) (qq d),K8]
theorem j0w(ex:Int):(q8 ex).enc.length<=100:=by
 unfold q8
 split
 ·simp [Ns.enc]
 ·refine Nat.le_trans (zi 151 _ .nil (by decide) (by decide) ?_) ?_
  ·split<;>simp [YV,zu]
  ·split<;>simp [YV,zu,Ns.enc]
theorem j2i(k1 N data:List UInt8)(ex:Int)(hd:data.length<=4096):((j6 k1 N data).app (q8 ex)).enc.length<=10000:=by
 rw [xq,List.length_append]
 have h1:=j0w ex
 have h2:(j6 k1 N data).enc.length<=5000:=by
  unfold j6
  split
  ·simp [Ns.enc]
  ·have hl:=yR k1 (qK k1 N) data
   have hp:=kW data.length
   refine Nat.le_trans (zi 135 _ .nil (by decide) (by decide) (by simp;omega)) ?_
   simp [Ns.enc]
   omega
 omega
theorem Xe(vs vc:Value)(k1 k2:List UInt8)(n:Int)(c:Cm)(w:World)(hs:qa w (·<w.heap.size) vs k1 k2 n)(hc:yx w (·<w.heap.size) vc c):
 Calls Tryz.prog 23 #[vs,vc] w (yy (q6 k1 k2 n c) w):=by
 obtain⟨cl,ins,p1,p2,data,ex⟩:=c
 obtain⟨A1,d1,A2,d2,A3,d3,ws,wq,w2,wa,rfl,rfl,R2,R3,CS,CC,HZA,HB,HWS,HWC,HW2,HW3,H1,H2,H3,HSV,HCV⟩:=j5s hs hc
 clear hs hc
 by_cases v1:vS k1 k2 n=true
 ·have HVS:=iH v1
  by_cases v2:vC ⟨cl,ins,p1,p2,data,ex⟩=true
  ·have HVC:=iH v2
   have VS:=iH (of_decide_eq_true v1)
   have VC:=iH (of_decide_eq_true v2)
   clear v1 v2
   obtain⟨m,hm⟩:∃m:Nat,cl=m:=⟨cl.toNat,by have:=VC.out;simp only at this;omega⟩
   subst hm
   have hm:m<255:=by have:=VC.out;simp only at this;omega
   have a1:=Jf m (by omega)
   have o1:=Uv m (by omega)
   by_cases g1:m / 4 % 4=0
   ·have a2:bits BinOp.and IntKind.i64 (m:Int) 12=0:=by rw [a1,g1]<;>rfl
    have o2:bits BinOp.or IntKind.i64 (m:Int) 12=(m:Int)+12:=by rw [o1];omega
    by_cases g2:m=243
    ·have c1:decide ((m:Int)+12>254)=true:=decide_eq_true (by omega)
     have R:Hid (q6 k1 k2 n ⟨m,ins,p1,p2,data,ex⟩=(14,zC,[],[],0)):=iH (by unfold q6;rw [iF (by rw [HVS.out];simp),iF (by rw [HVC.out];simp),iT (by unfold Jb;rw [g2]<;>rfl)])
     clear g1 g2 a1 o1 hm
     go_enter Tryz.func23,Tryz.ntmps23
     go_upto_region 1 with fail
     rw [<-HWS.out,<-HWC.out,<-HW2.out,<-HW3.out]
     obtain⟨f0,f1,f2⟩:=CS.out wa iB
     go_upto_region 2 with (first
      |(go_at_call 48;have M1:=HBV;go_loud(refine(kF _ _ _ wv (HCV.out wv HBV.out)).mono ?_;rw [HVC.out];rintro e wc ⟨rfl,hb⟩;have hb2:=HBV.out.trans (hb.mono HBV.out.size);have HBC:=iH hb2;clear g0 g1 g2 g3 g4 g5;obtain⟨g0,g1,g2,g3,g4,g5⟩:=CC.out wc hb2;clear f0 f1 f2;obtain⟨f0,f1,f2⟩:=CS.out wc hb2;clear hb hb2))
      |(go_at_call 47;refine(jr _ k1 k2 n _ wa HSV.out).mono ?_;rw [HVS.out];rintro e wv ⟨rfl,hb⟩;have HBV:=iH hb;obtain⟨g0,g1,g2,g3,g4,g5⟩:=CC.out wv hb;clear hb))
     clear f0 f1 f2 g0 g1 g2 g3 g4 g5 a2 o2 c1
     obtain⟨r0,r1,r2,r3,r4,r5,rf⟩:=ja (R2.out wc HBC.out);have rf0:=rf 0;have rf1:=rf 1;have rf2:=rf 2;have rf3:=rf 3;have rf4:=rf 4;have rf5:=rf 5;clear rf;obtain⟨s0,s1,s2,sf⟩:=j7 (R3.out wc HBC.out);have sf0:=sf 0;have sf1:=sf 1;have sf2:=sf 2;clear sf
     go_wp2_with fail
     obtain⟨q2,q3⟩:=jo (R2.out wc HBC.out) (R3.out wc HBC.out) (.int .i64 0) (.int .i64 0) (.int .i64 0) (.int .i64 0) (.slice none 0 0) (.int .i64 0) (.slice none 0 0) (.slice none 0 0) (.int .i64 0)
     obtain⟨y0,y1,y2,y3,y4,y5,_⟩:=ja q2
     obtain⟨x0,x1,x2,_⟩:=j7 q3
     refine bodyPost_ret (v:=.tuple #[.agg #[.int .i64 0,.int .i64 0,.int .i64 0,.int .i64 0,.slice none 0 0,.int .i64 0],.agg #[.slice none 0 0,.slice none 0 0,.int .i64 0],.int .i64 14]) (by simp only [set6,set3]at y0 y1 y2 y3 y4 y5 x0 x1 x2;simp [results,Tryz.results23,go_sem,y0,y1,y2,y3,y4,y5,x0,x1,x2]) rfl ?_
     rw [R.out]
     exact⟨_,_,rfl,⟨_,rfl,BsS.nil0 _ _⟩,⟨_,_,rfl,BsS.nil0 _ _,BsS.nil0 _ _⟩,jj (HB.out.trans (Below.mono HBC.out HB.out.size)) (by omega)⟩
    ·have c1:decide ((m:Int)+12>254)=false:=decide_eq_false (by omega)
     have GC:Hid (Jb (m:Int)=true):=iH (by unfold Jb;rw [Bool.and_eq_true];exact⟨decide_eq_true (by omega),decide_eq_true (by omega)⟩)
     have HM:Hid (m<243):=iH (by omega)
     by_cases g3:n=1099511627776
     ·have t3:(n==1099511627776)=true:=by simp [g3]
      have R:Hid (q6 k1 k2 n ⟨m,ins,p1,p2,data,ex⟩=(3,zC,[],[],0)):=iH (by unfold q6;rw [iF (by rw [HVS.out];simp),iF (by rw [HVC.out];simp),iF (by rw [GC.out];simp),iT g3])
      clear g1 g2 g3 a1 o1 hm
      go_enter Tryz.func23,Tryz.ntmps23
      go_upto_region 1 with fail
      rw [<-HWS.out,<-HWC.out,<-HW2.out,<-HW3.out]
      obtain⟨f0,f1,f2⟩:=CS.out wa iB
      go_upto_region 4 with (first
       |(go_at_call 48;have M1:=HBV;go_loud(refine(kF _ _ _ wv (HCV.out wv HBV.out)).mono ?_;rw [HVC.out];rintro e wc ⟨rfl,hb⟩;have hb2:=HBV.out.trans (hb.mono HBV.out.size);have HBC:=iH hb2;clear g0 g1 g2 g3 g4 g5;obtain⟨g0,g1,g2,g3,g4,g5⟩:=CC.out wc hb2;clear f0 f1 f2;obtain⟨f0,f1,f2⟩:=CS.out wc hb2;clear hb hb2))
       |(go_at_call 47;refine(jr _ k1 k2 n _ wa HSV.out).mono ?_;rw [HVS.out];rintro e wv ⟨rfl,hb⟩;have HBV:=iH hb;obtain⟨g0,g1,g2,g3,g4,g5⟩:=CC.out wv hb;clear hb))
      clear f0 f1 f2 g0 g1 g2 g3 g4 g5 a2 o2 c1 t3
      obtain⟨r0,r1,r2,r3,r4,r5,rf⟩:=ja (R2.out wc HBC.out);have rf0:=rf 0;have rf1:=rf 1;have rf2:=rf 2;have rf3:=rf 3;have rf4:=rf 4;have rf5:=rf 5;clear rf;obtain⟨s0,s1,s2,sf⟩:=j7 (R3.out wc HBC.out);have sf0:=sf 0;have sf1:=sf 1;have sf2:=sf 2;clear sf
      go_wp2_with fail
      obtain⟨q2,q3⟩:=jo (R2.out wc HBC.out) (R3.out wc HBC.out) (.int .i64 0) (.int .i64 0) (.int .i64 0) (.int .i64 0) (.slice none 0 0) (.int .i64 0) (.slice none 0 0) (.slice none 0 0) (.int .i64 0)
      obtain⟨y0,y1,y2,y3,y4,y5,_⟩:=ja q2
      obtain⟨x0,x1,x2,_⟩:=j7 q3
      refine bodyPost_ret (v:=.tuple #[.agg #[.int .i64 0,.int .i64 0,.int .i64 0,.int .i64 0,.slice none 0 0,.int .i64 0],.agg #[.slice none 0 0,.slice none 0 0,.int .i64 0],.int .i64 3]) (by simp only [set6,set3]at y0 y1 y2 y3 y4 y5 x0 x1 x2;simp [results,Tryz.results23,go_sem,y0,y1,y2,y3,y4,y5,x0,x1,x2]) rfl ?_
      rw [R.out]
      exact⟨_,_,rfl,⟨_,rfl,BsS.nil0 _ _⟩,⟨_,_,rfl,BsS.nil0 _ _,BsS.nil0 _ _⟩,jj (HB.out.trans (Below.mono HBC.out HB.out.size)) (by omega)⟩
     ·have t3:(n==1099511627776)=false:=by simpa using g3
      have LK1:Hid (k1.length=16):=iH VS.out.1
      have LK2:Hid (k2.length=16):=iH VS.out.2.1
      have LD:Hid (data.length<=4096):=iH VC.out.2.2.2.2.2.1
      have HEXP:Hid (ex= -1\/(1<=ex/\ex<=65536)):=iH VC.out.2.2.2.2.2.2
      have OCI:Hid (qg ins=true/\qg p1=true/\qg p2=true):=iH ⟨decide_eq_true VC.out.2.2.1,decide_eq_true VC.out.2.2.2.1,decide_eq_true VC.out.2.2.2.2.1⟩
      obtain⟨N,hN⟩:∃N,J3 (n+1)=N:=⟨_,rfl⟩
      have LN:Hid (N.length=16):=iH (by rw [<-hN]<;>rfl)
      have HNX:Hid (∀(va vb:Value) (w:World),Bs w w.heap.size va k1->Bs w w.heap.size vb k2->Calls Tryz.prog 49 #[.agg #[va,vb,.int .i64 n]] w fun e w'=>∃x y z,e=.returned (.agg #[x,y,.int .i64 (n+1),z])/\Bs w' w'.heap.size x k1/\Bs w' w'.heap.size y k2/\Bs w' w'.heap.size z N/\Below w.heap.size w w'):=iH (fun va vb w h1 h2=>by rw [<-hN];exact yd va vb k1 k2 n VS.out.2.2.1 VS.out.2.2.2 w h1 h2)
      have R:Hid (q6 k1 k2 n ⟨m,ins,p1,p2,data,ex⟩=match qT k2 N (xr ((m:Int)+12) ins p1 p2) ((j6 k1 N data).app (q8 ex))with
       |.error e=>(e,zC,[],[],0)
       |.ok b=>(0,⟨(m:Int)+12,ins,p1,p2,b,65536⟩,k1,k2,n+1)):=iH (by unfold q6;rw [iF (by rw [HVS.out];simp),iF (by rw [HVC.out];simp),iF (by rw [GC.out];simp),iF g3,hN]<;>rfl)
      have G3:=iH g3
      obtain⟨oe,hoe⟩:∃o,(ex != -1)=o:=⟨_,rfl⟩
      have HOE:=iH hoe
      clear hN g1 g2 g3 a1 o1 hm
      go_enter Tryz.func23,Tryz.ntmps23
      go_upto_region 1 with fail
      rw [<-HWS.out,<-HWC.out,<-HW2.out,<-HW3.out]
      obtain⟨f0,f1,f2⟩:=CS.out wa iB
      go_upto_region 6 with (first
       |(go_at_call 49;refine(HNX.out _ _ wc (H1.out.lift HBC.out) (H2.out.lift HBC.out)).mono ?_;rintro e wn ⟨x,y,z,rfl,hx,hy,hz,hb⟩;obtain⟨xA,xc,hp⟩:=Bs.formL hx;subst hp;obtain⟨yA,yc,hp⟩:=Bs.formL hy;subst hp;obtain⟨zA,zc,hp⟩:=Bs.formL hz;subst hp;have HX:=iH hx;have HY:=iH hy;have HZ:=iH hz;have HBN:=iH (HBC.out.trans (hb.mono HBC.out.size));obtain⟨u0,u1,u2,u3,uf⟩:=kd (xZ wn);have uf0:=uf 0;have uf1:=uf 1;have uf2:=uf 2;have uf3:=uf 3;clear uf hx hy hz hb)
       |(go_at_call 48;have M1:=HBV;go_loud(refine(kF _ _ _ wv (HCV.out wv HBV.out)).mono ?_;rw [HVC.out];rintro e wc ⟨rfl,hb⟩;have hb2:=HBV.out.trans (hb.mono HBV.out.size);have HBC:=iH hb2;clear g0 g1 g2 g3 g4 g5;obtain⟨g0,g1,g2,g3,g4,g5⟩:=CC.out wc hb2;clear f0 f1 f2;obtain⟨f0,f1,f2⟩:=CS.out wc hb2;clear hb hb2))
       |(go_at_call 47;refine(jr _ k1 k2 n _ wa HSV.out).mono ?_;rw [HVS.out];rintro e wv ⟨rfl,hb⟩;have HBV:=iH hb;obtain⟨g0,g1,g2,g3,g4,g5⟩:=CC.out wv hb;clear hb))
      clear u0 u1 u2 u3 uf0 uf1 uf2 uf3 g0 g1 g2 g3 g4 g5 f0 f1 f2 a2 c1 t3
      obtain⟨wu,hwu⟩:∃wu,wu=wn.alloc (.cells #[.slice xA k1.length xc,.slice yA k2.length yc,.int .i64 (n+1),.slice zA N.length zc] 77):=⟨_,rfl⟩
      rw [<-hwu]
      have hbu:Below wn.heap.size wn wu:=by rw [hwu];exact iA
      have hur:wu.heap[wn.heap.size]?=some (.cells #[.slice xA k1.length xc,.slice yA k2.length yc,.int .i64 (n+1),.slice zA N.length zc] 77 (0,0)):=by rw [hwu];exact iN
      have hult:=(iG hur)
      have CU:Hid (∀W,Below wu.heap.size wu W->W.cell? ⟨wn.heap.size,0,none⟩=some (.slice xA k1.length xc)/\W.cell? ⟨wn.heap.size,1,none⟩=some (.slice yA k2.length yc)/\W.cell? ⟨wn.heap.size,2,none⟩=some (.int .i64 (n+1))/\W.cell? ⟨wn.heap.size,3,none⟩=some (.slice zA N.length zc)):=iH fun W h=>(by obtain⟨a,b,c,d,_⟩:=kd ((h.block _ hult).trans hur);exact⟨a,b,c,d⟩)
      have RU:Hid (∀W,Below wu.heap.size wu W->W.heap[wn.heap.size]?=some (.cells #[.slice xA k1.length xc,.slice yA k2.length yc,.int .i64 (n+1),.slice zA N.length zc] 77 (0,0))):=iH fun W h=>(h.block _ hult).trans hur
      have HBAU:=iH (HBN.out.trans (hbu.mono HBN.out.size))
      have XU:=iH (HX.out.lift hbu);have YU:=iH (HY.out.lift hbu);have ZU:=iH (HZ.out.lift hbu);have DU:=iH (H3.out.lift HBAU.out)
      clear hwu hbu hur hult
      obtain⟨j0,j1,j2,j3⟩:=CU.out wu iB
      obtain⟨g0,g1,g2,g3,g4,g5⟩:=CC.out wu HBAU.out
      obtain⟨f0,f1,f2⟩:=CS.out wu HBAU.out
      go_upto_if 52 with (go_at_call 50;refine(KA _ _ _ _ _ k1 N data LK1.out LN.out LD.out wu XU.out ZU.out DU.out).mono ?_;rintro e wk ⟨o,rfl,ho,hb⟩;obtain⟨oA,oc,hp⟩:=ho.form;subst hp;have HO:=iH ho;have HBK:=iH hb;clear g0 g1 g2 g3 g4 g5;obtain⟨g0,g1,g2,g3,g4,g5⟩:=CC.out wk (HBAU.out.trans (hb.mono HBAU.out.size));clear ho hb j0 j1 j2 j3 f0 f1 f2)
      clear g0 g1 g2 g3 g4 g5 hoe
      have HCL:Hid ((j6 k1 N data).len<=1000000000000):=iH (by unfold j6;split<;>simp [Ns.len])
      go_cut [8,9,10,11] from 53 to 72 (fun y8 _ _ _ wx=>∃A c,y8=.slice A ((j6 k1 N data).app (q8 ex)).len c/\OwnN wx wu.heap.size (.slice A ((j6 k1 N data).app (q8 ex)).len c) ((j6 k1 N data).app (q8 ex))/\Below wu.heap.size wu wx)
      case first=>
       by_cases b0:ex= -1
       ·have HEX:Hid ((j6 k1 N data).app (q8 ex)=j6 k1 N data):=iH (by unfold q8;rw [iT b0,Ns.app_nil])
        obtain rfl:oe=false:=by rw [<-HOE.out];simp [b0]
        clear b0
        obtain⟨g0,g1,g2,g3,g4,g5⟩:=CC.out wk (HBAU.out.trans (HBK.out.mono HBAU.out.size))
        go_wp2_with fail
        go_meet
        exact⟨oA,oc,by rw [HEX.out],by rw [HEX.out];exact HO.out,HBK.out⟩
       ·have be:1<=ex/\ex<=65536:=HEXP.out.resolve_left b0
        have be1:=be.1;have be2:=be.2
        clear be
        by_cases b1:256<ex
        ·have HE0:Hid (0<=ex):=iH (by omega)
         have TS:decide (ex>256)=true:=decide_eq_true (by omega)
         obtain rfl:oe=true:=by rw [<-HOE.out];simp;omega
         obtain⟨X7,hX7⟩:∃X,zu (ex % 65536)=X:=⟨_,rfl⟩
         have LX7:Hid (X7.length=2):=iH (by rw [<-hX7]<;>rfl)
         have HOC:Hid (∀w,Calls Tryz.prog 51 #[.int .i64 (ex % 65536),.int .i64 2] w fun e w'=>∃v',e=.returned (.tuple #[v',.int .i64 0])/\OwnB w' w.heap.size v' X7/\Below w.heap.size w w'):=iH (fun w=>by rw [<-hX7];exact Qh (ex % 65536) w (by omega) (by omega))
         have HEX:Hid ((j6 k1 N data).app (q8 ex)=(j6 k1 N data).app (.cons 151 X7 .nil .nil)):=iH (by unfold q8;rw [iF (by omega),iT (by omega),hX7])
         clear hX7 b0 b1
         obtain⟨g0,g1,g2,g3,g4,g5⟩:=CC.out wk (HBAU.out.trans (HBK.out.mono HBAU.out.size))
         go_upto_region 11 with fail
         clear g0 g1 g2 g3 g4 g5 TS
         refine je 13 [some 57,some 58,some 59,some 60,some 61,some 62,some 63,some 64,some 56,some 65,some 66,some 10,some 11] [[],[0],[],[2],[2,3],[0,1,2,3,4],[],[0,1,2,3,4,5,6],[0,1,2,3,4,5,6,7],[0,1,2,3,4,5,6,7,8],[0,1,2,3,4,5,6,7,8],[0,1,2,3,4,5,6,7,8,9],[0,1,2,3,4,5,6,7,8,9,10,11]]
          (fun _ _ w1=>Below wk.heap.size wk w1) (fun w1 w2=>Below w1.heap.size w1 w2)
          [fun v _=>v 0=.pointer (some ⟨w.heap.size+1,5,none⟩),
           fun v _=>v 1=.int .i64 ex,
           fun v _=>v 2=.int .i64 2,
           fun v _=>v 3=.int .i64 16,
           fun v _=>v 4=.int .i64 65536,
           fun v _=>v 5=.int .i64 (ex % 65536),
           fun v _=>v 6=.int .i64 2,
           fun v w1=>∃a c,v 7=.tuple #[.slice a (X7).length c,.int .i64 0]/\BsS w1 (New wk w1) (.slice a (X7).length c) (X7),
           fun v w1=>∃a c,v 8=.tuple #[.slice a (X7).length c,.int .i64 0]/\BsS w1 (New wk w1) (.slice a (X7).length c) (X7),
           fun v w1=>∃a c,v 9=.slice a (X7).length c/\BsS w1 (New wk w1) (.slice a (X7).length c) (X7),
           fun v _=>v 10=.int .i64 0,
           fun v w1=>∃a c,v 11=.slice a (X7).length c/\BsS w1 (New wk w1) (.slice a (X7).length c) (X7),
           fun v _=>v 12=.int .i64 0]
          (by kernel_rfl) (by kernel_rfl) (fun _=>iB.drew) ?st2 ?steps2 ?tail2
         case st2=>
          exact(.cons (fun _ _ _ _ _ _ h=>h) (.cons (fun _ _ _ _ _ _ h=>h) (.cons (fun _ _ _ _ _ _ h=>h) (.cons (fun _ _ _ _ _ _ h=>h) (.cons (fun _ _ _ _ _ _ h=>h) (.cons (fun _ _ _ _ _ _ h=>h) (.cons (fun _ _ _ _ _ _ h=>h) (.cons (fun _ _ _ _ _ hr ⟨a,c,e,h⟩=>⟨a,c,e,BsS.keep h fun g hg hl=>⟨hr.block g hl,hg.1,iZ hl hr.size⟩⟩) (.cons (fun _ _ _ _ _ hr ⟨a,c,e,h⟩=>⟨a,c,e,BsS.keep h fun g hg hl=>⟨hr.block g hl,hg.1,iZ hl hr.size⟩⟩) (.cons (fun _ _ _ _ _ hr ⟨a,c,e,h⟩=>⟨a,c,e,BsS.keep h fun g hg hl=>⟨hr.block g hl,hg.1,iZ hl hr.size⟩⟩) (.cons (fun _ _ _ _ _ _ h=>h) (.cons (fun _ _ _ _ _ hr ⟨a,c,e,h⟩=>⟨a,c,e,BsS.keep h fun g hg hl=>⟨hr.block g hl,hg.1,iZ hl hr.size⟩⟩) (.cons (fun _ _ _ _ _ _ h=>h) .nil)))))))))))))
         case steps2=>
          simp only [iI,iK]
          refine(.cons ?_ (.cons ?_ (.cons ?_ (.cons ?_ (.cons ?_ (.cons ?_ (.cons ?_ (.cons ?_ (.cons ?_ (.cons ?_ (.cons ?_ (.cons ?_ (.cons ?_ .nil)))))))))))))
          all_goals(intro L v w1 hJ hL hA hF K hK;simp only [jf,Act.put,iM,Nat.reduceAdd,iS,iC,iD]at hK |-)
          ·go_simp
           refine hK _ _ hJ iB ?_
           first|exact rfl|exact j5 _
          ·have e0:v 0=.pointer (some ⟨w.heap.size+1,5,none⟩):=hF 0 (hA 0 (by simp))
           obtain⟨c0,c1,c2,c3,c4,c5⟩:=CC.out _ (HBAU.out.trans ((HBK.out.trans (hJ.mono HBK.out.size)).mono HBAU.out.size))
           simp only [e0]at hK
           go_simp
           refine hK _ _ hJ iB ?_
           first|exact rfl|exact j5 _
          ·go_simp
           refine hK _ _ hJ iB ?_
           first|exact rfl|exact j5 _
          ·have e2:v 2=.int .i64 2:=hF 2 (hA 2 (by simp))
           simp only [e2]at hK
           go_simp
           refine hK _ _ hJ iB ?_
           first|exact rfl|exact j5 _
          ·have e3:v 3=.int .i64 16:=hF 3 (hA 3 (by simp))
           simp only [e3]at hK
           go_simp
           refine hK _ _ hJ iB ?_
           first|exact rfl|exact j5 _
          ·have e1:v 1=.int .i64 ex:=hF 1 (hA 1 (by simp))
           have e4:v 4=.int .i64 65536:=hF 4 (hA 4 (by simp))
           simp only [e1,e4]at hK
           go_simp
           refine hK _ _ hJ iB ?_
           show Value.int .i64 (Int.tmod ex 65536)=_
           rw [Int.tmod_eq_emod_of_nonneg HE0.out]
          ·go_simp
           refine hK _ _ hJ iB ?_
           first|exact rfl|exact j5 _
          ·have e5:v 5=.int .i64 (ex % 65536):=hF 5 (hA 5 (by simp))
           have e6:v 6=.int .i64 2:=hF 6 (hA 6 (by simp))
           simp only [e5,e6]at hK
           go_simp
           refine(HOC.out w1).mono ?_
           rintro e w5 ⟨v5,rfl,ho,hb⟩
           have hx:BsS w5 (New wk w5) v5 (X7):=(ho.out (by have:=LX7.out;omega) w1 iL).keep fun g hg _=>⟨rfl,Nat.le_trans hJ.size hg.1,hg.2⟩
           obtain⟨A5,C5,hv5⟩:=Bs.formL hx
           subst hv5
           exact hK _ _ (hJ.trans (hb.mono hJ.size)) hb ⟨_,_,rfl,hx⟩
          ·obtain⟨a7,c7,e7,h7⟩:∃a c,v 7=.tuple #[.slice a (X7).length c,.int .i64 0]/\BsS w1 (New wk w1) (.slice a (X7).length c) (X7):=hF 7 (hA 7 (by simp))
           simp only [e7]at hK
           go_simp
           exact hK _ _ hJ iB ⟨_,_,rfl,h7⟩
          ·obtain⟨a8,c8,e8,h8⟩:∃a c,v 8=.tuple #[.slice a (X7).length c,.int .i64 0]/\BsS w1 (New wk w1) (.slice a (X7).length c) (X7):=hF 8 (hA 8 (by simp))
           simp only [e8]at hK
           go_simp
           exact hK _ _ hJ iB ⟨_,_,rfl,h8⟩
          ·obtain⟨a8,c8,e8,h8⟩:∃a c,v 8=.tuple #[.slice a (X7).length c,.int .i64 0]/\BsS w1 (New wk w1) (.slice a (X7).length c) (X7):=hF 8 (hA 8 (by simp))
           simp only [e8]at hK
           go_simp
           exact hK _ _ hJ iB rfl
          ·obtain⟨a9,c9,e9,h9⟩:∃a c,v 9=.slice a (X7).length c/\BsS w1 (New wk w1) (.slice a (X7).length c) (X7):=hF 9 (hA 9 (by simp))
           simp only [e9]at hK
           go_simp
           exact hK _ _ hJ iB ⟨_,_,rfl,h9⟩
          ·have e10:v 10=.int .i64 0:=hF 10 (hA 10 (by simp))
           simp only [e10]at hK
           go_simp
           refine hK _ _ hJ iB ?_
           first|exact rfl|exact j5 _
         case tail2=>
          intro v w1 hJ hF
          have e0:v 0=.pointer (some ⟨w.heap.size+1,5,none⟩):=hF 0 (by simp)
          have e1:v 1=.int .i64 ex:=hF 1 (by simp)
          have e2:v 2=.int .i64 2:=hF 2 (by simp)
          have e3:v 3=.int .i64 16:=hF 3 (by simp)
          have e4:v 4=.int .i64 65536:=hF 4 (by simp)
          have e5:v 5=.int .i64 (ex % 65536):=hF 5 (by simp)
          have e6:v 6=.int .i64 2:=hF 6 (by simp)
          have e10:v 10=.int .i64 0:=hF 10 (by simp)
          have e12:v 12=.int .i64 0:=hF 12 (by simp)
          obtain⟨a11,c11,e11,h11⟩:∃a c,v 11=.slice a (X7).length c/\BsS w1 (New wk w1) (.slice a (X7).length c) (X7):=hF 11 (by simp)
          simp only [iE,iJ,jf,Act.put,iM,Nat.reduceAdd,iS,iC,iD]
          simp only [e11,e12]
          clear e0 e1 e2 e3 e4 e5 e6 e10 e11 e12
          have HO1:=iH (HO.out.below hJ)
          have HV1:=iH (qO HO.out h11 hJ HBK.out.size)
          have HBS1:=iH (Nat.le_trans HBK.out.size hJ.size)
          have HJ:=iH hJ
          clear h11 hJ hF
          go_wp2_with(at_builtin;(with_reducible refine jx rfl (.tmp 67) (.tmp 70) rfl wu.heap.size (.slice oA (j6 k1 N data).len oc) (j6 k1 N data) rfl HO1.out 151 X7 .nil (.slice a11 X7.length c11) (.slice none 0 0) _ w1.heap.size rfl rfl j1a HV1.out (NsS.nil0 _ _) HCL.out HBS1.out ?_);intro o2 w2 hg2;have HG:=iH hg2;clear hg2)
          go_meet
          obtain⟨o2A,o2c,hp⟩:=HG.out.1.form
          exact⟨o2A,o2c,by rw [HEX.out];exact hp,by rw [HEX.out,<-hp];exact HG.out.1,(HBK.out.trans (HJ.out.mono HBK.out.size)).trans HG.out.2.1⟩
        ·have HE0:Hid (0<=ex):=iH (by omega)
         have TS:decide (ex>256)=false:=decide_eq_false (by omega)
         obtain rfl:oe=true:=by rw [<-HOE.out];simp;omega
         obtain⟨X7,hX7⟩:∃X,YV (ex % 256)=X:=⟨_,rfl⟩
         have LX7:Hid (X7.length=1):=iH (by rw [<-hX7]<;>rfl)
         have HOC:Hid (∀w,Calls Tryz.prog 51 #[.int .i64 (ex % 256),.int .i64 1] w fun e w'=>∃v',e=.returned (.tuple #[v',.int .i64 0])/\OwnB w' w.heap.size v' X7/\Below w.heap.size w w'):=iH (fun w=>by rw [<-hX7];exact j1s (ex % 256) w (by omega) (by omega))
         have HEX:Hid ((j6 k1 N data).app (q8 ex)=(j6 k1 N data).app (.cons 151 X7 .nil .nil)):=iH (by unfold q8;rw [iF (by omega),iF (by omega),hX7])
         clear hX7 b0 b1
         obtain⟨g0,g1,g2,g3,g4,g5⟩:=CC.out wk (HBAU.out.trans (HBK.out.mono HBAU.out.size))
         go_upto_region 11 with fail
         clear g0 g1 g2 g3 g4 g5 TS
         refine je 13 [some 57,some 58,some 59,some 60,some 61,some 62,some 63,some 64,some 56,some 65,some 66,some 10,some 11] [[],[0],[],[2],[2,3],[0,1,2,3,4],[],[0,1,2,3,4,5,6],[0,1,2,3,4,5,6,7],[0,1,2,3,4,5,6,7,8],[0,1,2,3,4,5,6,7,8],[0,1,2,3,4,5,6,7,8,9],[0,1,2,3,4,5,6,7,8,9,10,11]]
          (fun _ _ w1=>Below wk.heap.size wk w1) (fun w1 w2=>Below w1.heap.size w1 w2)
          [fun v _=>v 0=.pointer (some ⟨w.heap.size+1,5,none⟩),
           fun v _=>v 1=.int .i64 ex,
           fun v _=>v 2=.int .i64 1,
           fun v _=>v 3=.int .i64 8,
           fun v _=>v 4=.int .i64 256,
           fun v _=>v 5=.int .i64 (ex % 256),
           fun v _=>v 6=.int .i64 1,
           fun v w1=>∃a c,v 7=.tuple #[.slice a (X7).length c,.int .i64 0]/\BsS w1 (New wk w1) (.slice a (X7).length c) (X7),
           fun v w1=>∃a c,v 8=.tuple #[.slice a (X7).length c,.int .i64 0]/\BsS w1 (New wk w1) (.slice a (X7).length c) (X7),
           fun v w1=>∃a c,v 9=.slice a (X7).length c/\BsS w1 (New wk w1) (.slice a (X7).length c) (X7),
           fun v _=>v 10=.int .i64 0,
           fun v w1=>∃a c,v 11=.slice a (X7).length c/\BsS w1 (New wk w1) (.slice a (X7).length c) (X7),
           fun v _=>v 12=.int .i64 0]
          (by kernel_rfl) (by kernel_rfl) (fun _=>iB.drew) ?st1 ?steps1 ?tail1
         case st1=>
          exact(.cons (fun _ _ _ _ _ _ h=>h) (.cons (fun _ _ _ _ _ _ h=>h) (.cons (fun _ _ _ _ _ _ h=>h) (.cons (fun _ _ _ _ _ _ h=>h) (.cons (fun _ _ _ _ _ _ h=>h) (.cons (fun _ _ _ _ _ _ h=>h) (.cons (fun _ _ _ _ _ _ h=>h) (.cons (fun _ _ _ _ _ hr ⟨a,c,e,h⟩=>⟨a,c,e,BsS.keep h fun g hg hl=>⟨hr.block g hl,hg.1,iZ hl hr.size⟩⟩) (.cons (fun _ _ _ _ _ hr ⟨a,c,e,h⟩=>⟨a,c,e,BsS.keep h fun g hg hl=>⟨hr.block g hl,hg.1,iZ hl hr.size⟩⟩) (.cons (fun _ _ _ _ _ hr ⟨a,c,e,h⟩=>⟨a,c,e,BsS.keep h fun g hg hl=>⟨hr.block g hl,hg.1,iZ hl hr.size⟩⟩) (.cons (fun _ _ _ _ _ _ h=>h) (.cons (fun _ _ _ _ _ hr ⟨a,c,e,h⟩=>⟨a,c,e,BsS.keep h fun g hg hl=>⟨hr.block g hl,hg.1,iZ hl hr.size⟩⟩) (.cons (fun _ _ _ _ _ _ h=>h) .nil)))))))))))))
         case steps1=>
          simp only [iI,iK]
          refine(.cons ?_ (.cons ?_ (.cons ?_ (.cons ?_ (.cons ?_ (.cons ?_ (.cons ?_ (.cons ?_ (.cons ?_ (.cons ?_ (.cons ?_ (.cons ?_ (.cons ?_ .nil)))))))))))))
          all_goals(intro L v w1 hJ hL hA hF K hK;simp only [jf,Act.put,iM,Nat.reduceAdd,iS,iC,iD]at hK |-)
          ·go_simp
           refine hK _ _ hJ iB ?_
           first|exact rfl|exact j5 _
          ·have e0:v 0=.pointer (some ⟨w.heap.size+1,5,none⟩):=hF 0 (hA 0 (by simp))
           obtain⟨c0,c1,c2,c3,c4,c5⟩:=CC.out _ (HBAU.out.trans ((HBK.out.trans (hJ.mono HBK.out.size)).mono HBAU.out.size))
           simp only [e0]at hK
           go_simp
           refine hK _ _ hJ iB ?_
           first|exact rfl|exact j5 _
          ·go_simp
           refine hK _ _ hJ iB ?_
           first|exact rfl|exact j5 _
          ·have e2:v 2=.int .i64 1:=hF 2 (hA 2 (by simp))
           simp only [e2]at hK
           go_simp
           refine hK _ _ hJ iB ?_
           first|exact rfl|exact j5 _
          ·have e3:v 3=.int .i64 8:=hF 3 (hA 3 (by simp))
           simp only [e3]at hK
           go_simp
           refine hK _ _ hJ iB ?_
           first|exact rfl|exact j5 _
          ·have e1:v 1=.int .i64 ex:=hF 1 (hA 1 (by simp))
           have e4:v 4=.int .i64 256:=hF 4 (hA 4 (by simp))
           simp only [e1,e4]at hK
           go_simp
           refine hK _ _ hJ iB ?_
           show Value.int .i64 (Int.tmod ex 256)=_
           rw [Int.tmod_eq_emod_of_nonneg HE0.out]
          ·go_simp
           refine hK _ _ hJ iB ?_
           first|exact rfl|exact j5 _
          ·have e5:v 5=.int .i64 (ex % 256):=hF 5 (hA 5 (by simp))
           have e6:v 6=.int .i64 1:=hF 6 (hA 6 (by simp))
           simp only [e5,e6]at hK
           go_simp
           refine(HOC.out w1).mono ?_
           rintro e w5 ⟨v5,rfl,ho,hb⟩
           have hx:BsS w5 (New wk w5) v5 (X7):=(ho.out (by have:=LX7.out;omega) w1 iL).keep fun g hg _=>⟨rfl,Nat.le_trans hJ.size hg.1,hg.2⟩
           obtain⟨A5,C5,hv5⟩:=Bs.formL hx
           subst hv5
           exact hK _ _ (hJ.trans (hb.mono hJ.size)) hb ⟨_,_,rfl,hx⟩
          ·obtain⟨a7,c7,e7,h7⟩:∃a c,v 7=.tuple #[.slice a (X7).length c,.int .i64 0]/\BsS w1 (New wk w1) (.slice a (X7).length c) (X7):=hF 7 (hA 7 (by simp))
           simp only [e7]at hK
           go_simp
           exact hK _ _ hJ iB ⟨_,_,rfl,h7⟩
          ·obtain⟨a8,c8,e8,h8⟩:∃a c,v 8=.tuple #[.slice a (X7).length c,.int .i64 0]/\BsS w1 (New wk w1) (.slice a (X7).length c) (X7):=hF 8 (hA 8 (by simp))
           simp only [e8]at hK
           go_simp
           exact hK _ _ hJ iB ⟨_,_,rfl,h8⟩
          ·obtain⟨a8,c8,e8,h8⟩:∃a c,v 8=.tuple #[.slice a (X7).length c,.int .i64 0]/\BsS w1 (New wk w1) (.slice a (X7).length c) (X7):=hF 8 (hA 8 (by simp))
           simp only [e8]at hK
           go_simp
           exact hK _ _ hJ iB rfl
          ·obtain⟨a9,c9,e9,h9⟩:∃a c,v 9=.slice a (X7).length c/\BsS w1 (New wk w1) (.slice a (X7).length c) (X7):=hF 9 (hA 9 (by simp))
           simp only [e9]at hK
           go_simp
           exact hK _ _ hJ iB ⟨_,_,rfl,h9⟩
          ·have e10:v 10=.int .i64 0:=hF 10 (hA 10 (by simp))
           simp only [e10]at hK
           go_simp
           refine hK _ _ hJ iB ?_
           first|exact rfl|exact j5 _
         case tail1=>
          intro v w1 hJ hF
          have e0:v 0=.pointer (some ⟨w.heap.size+1,5,none⟩):=hF 0 (by simp)
          have e1:v 1=.int .i64 ex:=hF 1 (by simp)
          have e2:v 2=.int .i64 1:=hF 2 (by simp)
          have e3:v 3=.int .i64 8:=hF 3 (by simp)
          have e4:v 4=.int .i64 256:=hF 4 (by simp)
          have e5:v 5=.int .i64 (ex % 256):=hF 5 (by simp)
          have e6:v 6=.int .i64 1:=hF 6 (by simp)
          have e10:v 10=.int .i64 0:=hF 10 (by simp)
          have e12:v 12=.int .i64 0:=hF 12 (by simp)
          obtain⟨a11,c11,e11,h11⟩:∃a c,v 11=.slice a (X7).length c/\BsS w1 (New wk w1) (.slice a (X7).length c) (X7):=hF 11 (by simp)
          simp only [iE,iJ,jf,Act.put,iM,Nat.reduceAdd,iS,iC,iD]
          simp only [e11,e12]
          clear e0 e1 e2 e3 e4 e5 e6 e10 e11 e12
          have HO1:=iH (HO.out.below hJ)
          have HV1:=iH (qO HO.out h11 hJ HBK.out.size)
          have HBS1:=iH (Nat.le_trans HBK.out.size hJ.size)
          have HJ:=iH hJ
          clear h11 hJ hF
          go_wp2_with(at_builtin;(with_reducible refine jx rfl (.tmp 67) (.tmp 70) rfl wu.heap.size (.slice oA (j6 k1 N data).len oc) (j6 k1 N data) rfl HO1.out 151 X7 .nil (.slice a11 X7.length c11) (.slice none 0 0) _ w1.heap.size rfl rfl j1a HV1.out (NsS.nil0 _ _) HCL.out HBS1.out ?_);intro o2 w2 hg2;have HG:=iH hg2;clear hg2)
          go_meet
          obtain⟨o2A,o2c,hp⟩:=HG.out.1.form
          exact⟨o2A,o2c,by rw [HEX.out];exact hp,by rw [HEX.out,<-hp];exact HG.out.1,(HBK.out.trans (HJ.out.mono HBK.out.size)).trans HG.out.2.1⟩
      case rest=>
      obtain⟨lA,lc,rfl,hO,hBX⟩:=hcut
      have HOX:=iH hO;have HBX:=iH hBX;have HBAX:=iH (HBAU.out.trans (hBX.mono HBAU.out.size))
      clear hO hBX
      obtain⟨g0,g1,g2,g3,g4,g5⟩:=CC.out wc HBAX.out
      obtain⟨n0,n1,n2,n3,n4,n5,nf⟩:=ja (qW wc)
      have nf0:=nf 0;have nf1:=nf 1;have nf2:=nf 2;have nf3:=nf 3;have nf4:=nf 4;have nf5:=nf 5
      clear nf
      go_upto_region 16 with fail
      have hby:Below wc.heap.size wc (wc.alloc (.cells #[.int .i64 ((m:Int)+12),.int .i64 ins,.int .i64 p1,.int .i64 p2,.slice A3 data.length d3,.int .i64 65536] 32)):=iA
      have hry:(wc.alloc (.cells #[.int .i64 ((m:Int)+12),.int .i64 ins,.int .i64 p1,.int .i64 p2,.slice A3 data.length d3,.int .i64 65536] 32)).heap[wc.heap.size]?=some (.cells #[.int .i64 ((m:Int)+12),.int .i64 ins,.int .i64 p1,.int .i64 p2,.slice A3 data.length d3,.int .i64 65536] 32 (0,0)):=iN
      obtain⟨wy,hwy⟩:∃wy,wy=wc.alloc (.cells #[.int .i64 ((m:Int)+12),.int .i64 ins,.int .i64 p1,.int .i64 p2,.slice A3 data.length d3,.int .i64 65536] 32):=⟨_,rfl⟩
      rw [<-hwy]at hby hry |-
      have hylt:=(iG hry)
      have CY:Hid (∀W,Below wy.heap.size wy W->W.cell? ⟨wc.heap.size,0,none⟩=some (.int .i64 ((m:Int)+12))/\W.cell? ⟨wc.heap.size,1,none⟩=some (.int .i64 ins)/\W.cell? ⟨wc.heap.size,2,none⟩=some (.int .i64 p1)/\W.cell? ⟨wc.heap.size,3,none⟩=some (.int .i64 p2)/\W.cell? ⟨wc.heap.size,4,none⟩=some (.slice A3 data.length d3)/\W.cell? ⟨wc.heap.size,5,none⟩=some (.int .i64 65536)):=iH fun W h=>(by obtain⟨a,b,c,d,e,f,_⟩:=ja ((h.block _ hylt).trans hry);exact⟨a,b,c,d,e,f⟩)
      have RY:Hid (∀W,Below wy.heap.size wy W->W.heap[wc.heap.size]?=some (.cells #[.int .i64 ((m:Int)+12),.int .i64 ins,.int .i64 p1,.int .i64 p2,.slice A3 data.length d3,.int .i64 65536] 32 (0,0))):=iH fun W h=>(h.block _ hylt).trans hry
      have HYL:=iH hylt
      have HUC:=iH HBX.out.size
      have HBUY:=iH (HBX.out.trans (hby.mono HBX.out.size))
      have HOY:=iH (HOX.out.below hby)
      have DY:=iH (DU.out.lift HBUY.out)
      have NEO:Hid ((Value.slice lA ((j6 k1 N data).app (q8 ex)).len lc).ownBlock≠some wc.heap.size):=iH (fun e=>by have:=(OwnN.lt HOX.out e).2;omega)
      obtain⟨H9,hH9⟩:∃H,xr ((m:Int)+12) ins p1 p2=H:=⟨_,rfl⟩
      have LH:Hid (H9.length<=100):=iH (by rw [<-hH9,zY];decide)
      have HHD:Hid (∀(v:Value) (w:World),yx w (·<w.heap.size) v ⟨(m:Int)+12,ins,p1,p2,data,65536⟩->Calls Tryz.prog 53 #[v] w fun e w'=>∃v',e=.returned v'/\BsS w' (New w w') v' H9/\Below w.heap.size w w'):=iH (fun v w h=>by have hq:=ZT v ((m:Int)+12) ins p1 p2 data 65536 _ w h (j2x HM.out) OCI.out.1 OCI.out.2.1 OCI.out.2.2;rw [hH9]at hq;exact hq)
      rw [hH9]at R
      have LLA:Hid (((j6 k1 N data).app (q8 ex)).all<=10):=iH (by unfold j6 q8;split<;>split<;>simp [Ns.app,Ns.all])
      have LLE:Hid (((j6 k1 N data).app (q8 ex)).enc.length<=10000):=iH (j2i k1 N data ex LD.out)
      clear hby hry hwy hylt hH9 n0 n1 n2 n3 n4 n5 nf0 nf1 nf2 nf3 nf4 nf5 g0 g1 g2 g3 g4 g5
      obtain⟨r,hr⟩:∃r,qT k2 N H9 ((j6 k1 N data).app (q8 ex))=r:=⟨_,rfl⟩
      have NEG:Hid (∀g,wy.heap.size<=g->(Value.slice lA ((j6 k1 N data).app (q8 ex)).len lc).ownBlock≠some g):=iH (fun g hg e=>by have:=(OwnN.lt HOX.out e).2;have:=HYL.out;omega)
      have HSL:Hid (∀(hA:Option Addr) (hc:Nat) (w:World),Below wu.heap.size wu w->Below wy.heap.size wy w->Bs w w.heap.size (.slice hA H9.length hc) H9->Calls Tryz.prog 52 #[.agg #[.slice xA k1.length xc,.slice yA k2.length yc,.int .i64 (n+1),.slice zA N.length zc],.slice hA H9.length hc,.slice lA ((j6 k1 N data).app (q8 ex)).len lc] w (XP r wu.heap.size (.slice lA ((j6 k1 N data).app (q8 ex)).len lc) w)):=iH (fun hA hc w h1 h2 h3=>by rw [<-hr];exact Xd (.slice xA k1.length xc) (.slice yA k2.length yc) (.slice zA N.length zc) (.slice hA H9.length hc) (.slice lA ((j6 k1 N data).app (q8 ex)).len lc) (n+1) k2 N H9 ((j6 k1 N data).app (q8 ex)) LK2.out LN.out LH.out LLA.out LLE.out wu.heap.size w (YU.out.lift h1) (ZU.out.lift h1) h3 (HOY.out.below h2) h1.size)
      rw [hr]at R
      have HRE:=iH hr
      clear hr
      refine je 10 [some 79,some 80,some 81,some 82,some 83,some 78,some 84,some 85,some 13,some 14] [[],[],[1],[],[0,1,2,3],[0,1,2,3,4],[0,1,2,3,4,5],[0,1,2,3,4,5],[0,1,2,3,4,5,6],[0,1,2,3,4,5,6,7,8]]
       (fun L _ w1=>wy.grownBy w1 (Value.slice lA ((j6 k1 N data).app (q8 ex)).len lc).ownBlock/\Below wu.heap.size wu w1/\(L 4=false->Below wy.heap.size wy w1)) (fun w1 w2=>w1.grownBy w2 (Value.slice lA ((j6 k1 N data).app (q8 ex)).len lc).ownBlock)
       [fun v _=>v 0=.agg #[.slice xA k1.length xc,.slice yA k2.length yc,.int .i64 (n+1),.slice zA N.length zc],
        fun v _=>v 1=.agg #[.int .i64 ((m:Int)+12),.int .i64 ins,.int .i64 p1,.int .i64 p2,.slice A3 data.length d3,.int .i64 65536],
        fun v w1=>∃a c,v 2=.slice a (H9).length c/\BsS w1 (New wy w1) (.slice a (H9).length c) (H9),
        fun v _=>v 3=.slice lA ((j6 k1 N data).app (q8 ex)).len lc,
        fun v w1=>∃a c,v 4=.tuple #[.slice a ((bytesOf r)).length c,.int .i64 (jQ r)]/\BsS w1 (New wy w1) (.slice a ((bytesOf r)).length c) ((bytesOf r)),
        fun v w1=>∃a c,v 5=.tuple #[.slice a ((bytesOf r)).length c,.int .i64 (jQ r)]/\BsS w1 (New wy w1) (.slice a ((bytesOf r)).length c) ((bytesOf r)),
        fun v w1=>∃a c,v 6=.slice a ((bytesOf r)).length c/\BsS w1 (New wy w1) (.slice a ((bytesOf r)).length c) ((bytesOf r)),
        fun v _=>v 7=.int .i64 (jQ r),
        fun v w1=>∃a c,v 8=.slice a ((bytesOf r)).length c/\BsS w1 (New wy w1) (.slice a ((bytesOf r)).length c) ((bytesOf r)),
        fun v _=>v 9=.int .i64 (jQ r)]
       (by kernel_rfl) (by kernel_rfl) (fun _=>⟨jF (iB.drew) _,HBUY.out.drew,fun _=>iB.drew⟩) ?st9 ?steps9 ?tail9
      case st9=>
       exact(.cons (fun _ _ _ _ _ _ h=>h) (.cons (fun _ _ _ _ _ _ h=>h) (.cons (fun _ _ _ _ _ hr ⟨a,c,e,h⟩=>⟨a,c,e,BsS.keep h fun g hg hl=>⟨hr.block g hl (NEG.out g hg.1).symm,hg.1,iZ hl hr.size⟩⟩) (.cons (fun _ _ _ _ _ _ h=>h) (.cons (fun _ _ _ _ _ hr ⟨a,c,e,h⟩=>⟨a,c,e,BsS.keep h fun g hg hl=>⟨hr.block g hl (NEG.out g hg.1).symm,hg.1,iZ hl hr.size⟩⟩) (.cons (fun _ _ _ _ _ hr ⟨a,c,e,h⟩=>⟨a,c,e,BsS.keep h fun g hg hl=>⟨hr.block g hl (NEG.out g hg.1).symm,hg.1,iZ hl hr.size⟩⟩) (.cons (fun _ _ _ _ _ hr ⟨a,c,e,h⟩=>⟨a,c,e,BsS.keep h fun g hg hl=>⟨hr.block g hl (NEG.out g hg.1).symm,hg.1,iZ hl hr.size⟩⟩) (.cons (fun _ _ _ _ _ _ h=>h) (.cons (fun _ _ _ _ _ hr ⟨a,c,e,h⟩=>⟨a,c,e,BsS.keep h fun g hg hl=>⟨hr.block g hl (NEG.out g hg.1).symm,hg.1,iZ hl hr.size⟩⟩) (.cons (fun _ _ _ _ _ _ h=>h) .nil))))))))))
      case steps9=>
       simp only [iI,iK]
       refine(.cons ?_ (.cons ?_ (.cons ?_ (.cons ?_ (.cons ?_ (.cons ?_ (.cons ?_ (.cons ?_ (.cons ?_ (.cons ?_ .nil))))))))))
       all_goals(intro L v w1 hJ hL hA hF K hK;simp only [jf,Act.put,iM,Nat.reduceAdd,iS,iC,iD]at hK |-)
       ·obtain⟨c0,c1,c2,c3⟩:=CU.out _ hJ.2.1
        go_simp
        refine hK _ _ ⟨hJ.1,hJ.2.1,fun h=>hJ.2.2 (by simpa [jp]using h)⟩ (World.grownBy.refl _ _) ?_
        first|exact rfl|exact j5 _
       ·obtain⟨c0,c1,c2,c3,c4,c5,_⟩:=ja ((hJ.1.block wc.heap.size HYL.out NEO.out.symm).trans (RY.out wy iB))
        go_simp
        refine hK _ _ ⟨hJ.1,hJ.2.1,fun h=>hJ.2.2 (by simpa [jp]using h)⟩ (World.grownBy.refl _ _) ?_
        first|exact rfl|exact j5 _
       ·have e1:v 1=.agg #[.int .i64 ((m:Int)+12),.int .i64 ins,.int .i64 p1,.int .i64 p2,.slice A3 data.length d3,.int .i64 65536]:=hF 1 (hA 1 (by simp))
        simp only [e1]at hK
        go_simp
        refine(HHD.out (.agg #[.int .i64 ((m:Int)+12),.int .i64 ins,.int .i64 p1,.int .i64 p2,.slice A3 data.length d3,.int .i64 65536]) w1 ⟨_,rfl,DU.out.lift hJ.2.1⟩).mono ?_
        rintro e w5 ⟨v5,rfl,ho,hb⟩
        have hx:BsS w5 (New wy w5) v5 H9:=ho.keep fun g hg _=>⟨rfl,Nat.le_trans hJ.1.size hg.1,hg.2⟩
        obtain⟨A5,C5,hv5⟩:=Bs.formL hx
        subst hv5
        exact hK _ _ ⟨kO hJ.1 (jF hb _),hJ.2.1.trans (hb.mono hJ.2.1.size),fun h=>(hJ.2.2 (by simpa [jp]using h)).trans (hb.mono hJ.1.size)⟩ (jF hb _) ⟨_,_,rfl,hx⟩
       ·go_simp
        refine hK _ _ ⟨hJ.1,hJ.2.1,fun h=>hJ.2.2 (by simpa [jp]using h)⟩ (World.grownBy.refl _ _) ?_
        first|exact rfl|exact j5 _
       ·have e0:v 0=.agg #[.slice xA k1.length xc,.slice yA k2.length yc,.int .i64 (n+1),.slice zA N.length zc]:=hF 0 (hA 0 (by simp))
        have e3:v 3=.slice lA ((j6 k1 N data).app (q8 ex)).len lc:=hF 3 (hA 3 (by simp))
        simp only [e0,e3]at hK
        obtain⟨a2,c2,e2,h2⟩:∃a c,v 2=.slice a (H9).length c/\BsS w1 (New wy w1) (.slice a (H9).length c) (H9):=hF 2 (hA 2 (by simp))
        simp only [e2]at hK
        go_simp
        refine(HSL.out a2 c2 w1 hJ.2.1 (hJ.2.2 hL) (BsS.keep h2 fun g hg _=>⟨rfl,hg.2⟩)).mono ?_
        rintro e w5 ⟨v5,rfl,hs,hb,hg⟩
        have hx:BsS w5 (New wy w5) v5 (bytesOf r):=hs.keep fun g hg _=>⟨rfl,Nat.le_trans hJ.1.size hg.1,hg.2⟩
        obtain⟨A5,C5,hv5⟩:=Bs.formL hx
        subst hv5
        exact hK _ _ ⟨kO hJ.1 hg,hJ.2.1.trans hb,fun h=>absurd h (by simp [jp])⟩ hg ⟨_,_,rfl,hx⟩
       ·obtain⟨a4,c4,e4,h4⟩:∃a c,v 4=.tuple #[.slice a ((bytesOf r)).length c,.int .i64 (jQ r)]/\BsS w1 (New wy w1) (.slice a ((bytesOf r)).length c) ((bytesOf r)):=hF 4 (hA 4 (by simp))
        simp only [e4]at hK
        go_simp
        exact hK _ _ ⟨hJ.1,hJ.2.1,fun h=>hJ.2.2 (by simpa [jp]using h)⟩ (World.grownBy.refl _ _) ⟨_,_,rfl,h4⟩
       ·obtain⟨a5,c5,e5,h5⟩:∃a c,v 5=.tuple #[.slice a ((bytesOf r)).length c,.int .i64 (jQ r)]/\BsS w1 (New wy w1) (.slice a ((bytesOf r)).length c) ((bytesOf r)):=hF 5 (hA 5 (by simp))
        simp only [e5]at hK
        go_simp
        exact hK _ _ ⟨hJ.1,hJ.2.1,fun h=>hJ.2.2 (by simpa [jp]using h)⟩ (World.grownBy.refl _ _) ⟨_,_,rfl,h5⟩
       ·obtain⟨a5,c5,e5,h5⟩:∃a c,v 5=.tuple #[.slice a ((bytesOf r)).length c,.int .i64 (jQ r)]/\BsS w1 (New wy w1) (.slice a ((bytesOf r)).length c) ((bytesOf r)):=hF 5 (hA 5 (by simp))
        simp only [e5]at hK
        go_simp
        exact hK _ _ ⟨hJ.1,hJ.2.1,fun h=>hJ.2.2 (by simpa [jp]using h)⟩ (World.grownBy.refl _ _) rfl
       ·obtain⟨a6,c6,e6,h6⟩:∃a c,v 6=.slice a ((bytesOf r)).length c/\BsS w1 (New wy w1) (.slice a ((bytesOf r)).length c) ((bytesOf r)):=hF 6 (hA 6 (by simp))
        simp only [e6]at hK
        go_simp
        exact hK _ _ ⟨hJ.1,hJ.2.1,fun h=>hJ.2.2 (by simpa [jp]using h)⟩ (World.grownBy.refl _ _) ⟨_,_,rfl,h6⟩
       ·have e7:v 7=.int .i64 (jQ r):=hF 7 (hA 7 (by simp))
        simp only [e7]at hK
        go_simp
        refine hK _ _ ⟨hJ.1,hJ.2.1,fun h=>hJ.2.2 (by simpa [jp]using h)⟩ (World.grownBy.refl _ _) ?_
        first|exact rfl|exact j5 _
      case tail9=>
       intro v w1 hJ hF
       have e0:v 0=.agg #[.slice xA k1.length xc,.slice yA k2.length yc,.int .i64 (n+1),.slice zA N.length zc]:=hF 0 (by simp)
       have e1:v 1=.agg #[.int .i64 ((m:Int)+12),.int .i64 ins,.int .i64 p1,.int .i64 p2,.slice A3 data.length d3,.int .i64 65536]:=hF 1 (by simp)
       have e3:v 3=.slice lA ((j6 k1 N data).app (q8 ex)).len lc:=hF 3 (by simp)
       have e7:v 7=.int .i64 (jQ r):=hF 7 (by simp)
       have e9:v 9=.int .i64 (jQ r):=hF 9 (by simp)
       obtain⟨a8,c8,e8,h8⟩:∃a c,v 8=.slice a ((bytesOf r)).length c/\BsS w1 (New wy w1) (.slice a ((bytesOf r)).length c) ((bytesOf r)):=hF 8 (by simp)
       simp only [iE,iJ,jf,Act.put,iM,Nat.reduceAdd,iS,iC,iD]
       simp only [e8,e9]
       clear e0 e1 e3 e7 e8 e9
       have HV3:=iH (BsS.keep h8 (w':=w1) (S':=(·<w1.heap.size)) fun g hg _=>⟨rfl,hg.2⟩)
       obtain⟨w3,rfl⟩:∃w3:World,w3=w1:=⟨_,rfl⟩
       have hrl:=(hJ.1.block wc.heap.size HYL.out NEO.out.symm).trans (RY.out wy iB)
       have RL3:=iH hrl
       have HBU3:=iH hJ.2.1
       have HB3:=iH (HBAU.out.trans (hJ.2.1.mono HBAU.out.size))
       clear h8 hJ hF
       obtain⟨vA,hvA⟩:∃vA,vA=a8:=⟨_,rfl⟩
       obtain⟨vc,hvc⟩:∃vc,vc=c8:=⟨_,rfl⟩
       rw [<-hvA,<-hvc]at HV3 |-
       clear hvA hvc
       rcases r with x|b
       ·have hx:=Xy HRE.out
        have t9:(x != 0)=true:=by simpa using hx
        clear hx hrl
        rw [show jQ (.error x:Except Int (List UInt8))=x from rfl]
        go_upto_region 18 with fail
        obtain⟨r0,r1,r2,r3,r4,r5,rf⟩:=ja (R2.out w3 HB3.out);have rf0:=rf 0;have rf1:=rf 1;have rf2:=rf 2;have rf3:=rf 3;have rf4:=rf 4;have rf5:=rf 5;clear rf;obtain⟨s0,s1,s2,sf⟩:=j7 (R3.out w3 HB3.out);have sf0:=sf 0;have sf1:=sf 1;have sf2:=sf 2;clear sf
        go_wp2_with fail
        obtain⟨q2,q3⟩:=jo (R2.out w3 HB3.out) (R3.out w3 HB3.out) (.int .i64 0) (.int .i64 0) (.int .i64 0) (.int .i64 0) (.slice none 0 0) (.int .i64 0) (.slice none 0 0) (.slice none 0 0) (.int .i64 0)
        obtain⟨y0,y1,y2,y3,y4,y5,_⟩:=ja q2
        obtain⟨x0,x1,x2,_⟩:=j7 q3
        refine bodyPost_ret (v:=.tuple #[.agg #[.int .i64 0,.int .i64 0,.int .i64 0,.int .i64 0,.slice none 0 0,.int .i64 0],.agg #[.slice none 0 0,.slice none 0 0,.int .i64 0],.int .i64 x]) (by simp only [set6,set3]at y0 y1 y2 y3 y4 y5 x0 x1 x2;simp [results,Tryz.results23,go_sem,y0,y1,y2,y3,y4,y5,x0,x1,x2]) rfl ?_
        rw [R.out]
        exact⟨_,_,rfl,⟨_,rfl,BsS.nil0 _ _⟩,⟨_,_,rfl,BsS.nil0 _ _,BsS.nil0 _ _⟩,jj (HB.out.trans (Below.mono HB3.out HB.out.size)) (by omega)⟩
       ·rw [show jQ (.ok b:Except Int (List UInt8))=0 from rfl,show bytesOf (.ok b:Except Int (List UInt8))=b from rfl]
        rw [show bytesOf (.ok b:Except Int (List UInt8))=b from rfl]at HV3
        obtain⟨z0,z1,z2,z3,z4,z5,zf⟩:=ja hrl
        have zf4:=zf 4
        clear zf hrl
        go_upto_region 20 with fail
        obtain⟨w4,hw4⟩:∃w4,w4=w3.setCell ⟨wc.heap.size,4,none⟩ (.slice vA b.length vc):=⟨_,rfl⟩
        rw [<-hw4]
        clear z0 z1 z2 z3 z4 z5 zf4
        have hb4:Below wu.heap.size wu w4:=by rw [hw4];exact HBU3.out.setCell HUC.out _
        have h4:Below wa.heap.size wa w4:=HBAU.out.trans (hb4.mono HBAU.out.size)
        obtain⟨wd,hwd⟩:∃wd,wd=w4.drew:=⟨_,rfl⟩
        have HWD:=iH hwd
        have RL4:Hid (wd.heap[wc.heap.size]?=some (.cells #[.int .i64 ((m:Int)+12),.int .i64 ins,.int .i64 p1,.int .i64 p2,.slice vA b.length vc,.int .i64 65536] 32 (0,0))):=iH (by rw [hwd,hw4];exact jg (o:=4) RL3.out)
        have RU4:Hid (wd.heap[wn.heap.size]?=some (.cells #[.slice xA k1.length xc,.slice yA k2.length yc,.int .i64 (n+1),.slice zA N.length zc] 77 (0,0))):=iH (by rw [hwd];exact RU.out w4 hb4)
        have RR4:Hid (wd.heap[(w.heap.size+1+1)]?=some (.cells #[.int .i64 0,.int .i64 0,.int .i64 0,.int .i64 0,.slice none 0 0,.int .i64 0] 32 (0,0))):=iH (by rw [hwd];exact R2.out w4 h4)
        have RS4:Hid (wd.heap[(w.heap.size+1+1+1)]?=some (.cells #[.slice none 0 0,.slice none 0 0,.int .i64 0] 29 (0,0))):=iH (by rw [hwd];exact R3.out w4 h4)
        have HB4:Hid (Below w.heap.size w wd):=iH (by rw [hwd];exact(HB.out.trans (h4.mono HB.out.size)).drew)
        have V4:Hid (Bs wd wd.heap.size (.slice vA b.length vc) b):=iH (by have h:=Bs.setr HV3.out (.slice vA b.length vc) RL3.out j4u (k:=4);rw [<-hw4]at h;rw [hwd];exact h)
        have X4:Hid (Bs wd wd.heap.size (.slice xA k1.length xc) k1):=iH (by rw [hwd];exact XU.out.lift hb4.drew)
        have Y4:Hid (Bs wd wd.heap.size (.slice yA k2.length yc) k2):=iH (by rw [hwd];exact YU.out.lift hb4.drew)
        have NE2:Hid (wc.heap.size≠(w.heap.size+1+1)):=iH (by have:=HZA.out;have:=HBAU.out.size;have:=HBX.out.size;omega)
        have NE3:Hid (wn.heap.size≠(w.heap.size+1+1)):=iH (by have:=HZA.out;have:=HBN.out.size;omega)
        clear hw4 hb4 h4 hwd
        refine je 4 [some 93,some 94,some 95,none] [[],[],[1],[0]]
         (J6 wd (w.heap.size+1+1) 3 (.int .i64 ((m:Int)+12)) (.int .i64 ins) (.int .i64 p1) (.int .i64 p2) (.slice vA b.length vc) (.int .i64 65536)) (fun _ _=>True)
         [fun v _=>v 0=.agg #[.int .i64 ((m:Int)+12),.int .i64 ins,.int .i64 p1,.int .i64 p2,.slice vA b.length vc,.int .i64 65536],
          fun v _=>v 1=.pointer (some ⟨wn.heap.size,0,none⟩),
          fun v _=>v 2=.agg #[.slice xA k1.length xc,.slice yA k2.length yc,.int .i64 (n+1)],
          fun v w1=>True]
         (by kernel_rfl) (by kernel_rfl) (fun _=>HWD.out.symm.trans (iF (by decide)).symm) ?st7 ?steps7 ?tail7
        case st7=>
         exact(.cons (fun _ _ _ _ _ _ h=>h) (.cons (fun _ _ _ _ _ _ h=>h) (.cons (fun _ _ _ _ _ _ h=>h) (.cons (fun _ _ _ _ _ _ h=>h) .nil))))
        case steps7=>
         simp only [iI,iK]
         refine(.cons ?_ (.cons ?_ (.cons ?_ (.cons ?_ .nil))))
         all_goals(intro L v w1 hJ hL hA hF K hK;simp only [jf,Act.put,iM,Nat.reduceAdd,iS,iC,iD]at hK |-)
         ·obtain⟨c0,c1,c2,c3,c4,c5,_⟩:=ja ((J6.row hJ NE2.out).trans RL4.out)
          go_simp
          refine hK _ _ (J6.step hJ 0 (by decide)) trivial ?_
          first|exact rfl|exact j5 _
         ·go_simp
          refine hK _ _ (J6.step hJ 1 (by decide)) trivial ?_
          first|exact rfl|exact j5 _
         ·have e1:v 1=.pointer (some ⟨wn.heap.size,0,none⟩):=hF 1 (hA 1 (by simp))
          obtain⟨c0,c1,c2,c3,_⟩:=kd ((J6.row hJ NE3.out).trans RU4.out)
          simp only [e1]at hK
          go_simp
          refine hK _ _ (J6.step hJ 2 (by decide)) trivial ?_
          first|exact rfl|exact j5 _
         ·have e0:v 0=.agg #[.int .i64 ((m:Int)+12),.int .i64 ins,.int .i64 p1,.int .i64 p2,.slice vA b.length vc,.int .i64 65536]:=hF 0 (hA 0 (by simp))
          simp only [e0]at hK
          obtain rfl:=J6.old hJ hL
          obtain⟨r0,r1,r2,r3,r4,r5,rf⟩:=ja RR4.out
          have rf0:=rf 0;have rf1:=rf 1;have rf2:=rf 2;have rf3:=rf 3;have rf4:=rf 4;have rf5:=rf 5;clear rf
          have hJ2:=iH hJ;have hL2:=iH hL
          clear hJ hL hF hA
          go_simp
          exact hK undef _ (J6.store hJ2.out hL2.out) trivial trivial
        case tail7=>
         intro v w1 hJ hF
         have e0:v 0=.agg #[.int .i64 ((m:Int)+12),.int .i64 ins,.int .i64 p1,.int .i64 p2,.slice vA b.length vc,.int .i64 65536]:=hF 0 (by simp)
         have e1:v 1=.pointer (some ⟨wn.heap.size,0,none⟩):=hF 1 (by simp)
         have e2:v 2=.agg #[.slice xA k1.length xc,.slice yA k2.length yc,.int .i64 (n+1)]:=hF 2 (by simp)
         simp only [iE,iJ,jf,Act.put,iM,Nat.reduceAdd,iS,iC,iD]
         simp only [e2]
         clear e0 e1 e2 hF
         obtain rfl:=J6.all hJ rfl
         have RS5:Hid ((set6 wd (w.heap.size+1+1) (.int .i64 ((m:Int)+12)) (.int .i64 ins) (.int .i64 p1) (.int .i64 p2) (.slice vA b.length vc) (.int .i64 65536)).heap[(w.heap.size+1+1+1)]?=some (.cells #[.slice none 0 0,.slice none 0 0,.int .i64 0] 29 (0,0))):=iH ((kH (by omega)).trans RS4.out)
         obtain⟨s0,s1,s2,sf⟩:=j7 RS5.out
         have sf0:=sf 0;have sf1:=sf 1;have sf2:=sf 2;clear sf
         obtain⟨w5,hw5⟩:∃w5,w5=set6 wd (w.heap.size+1+1) (.int .i64 ((m:Int)+12)) (.int .i64 ins) (.int .i64 p1) (.int .i64 p2) (.slice vA b.length vc) (.int .i64 65536):=⟨_,rfl⟩
         rw [<-hw5]at s0 s1 s2 sf0 sf1 sf2 |-
         have HW5:=iH hw5
         clear hw5 hJ
         go_wp2_with fail
         have q:=jo (W:=wd) RR4.out RS4.out (.int .i64 ((m:Int)+12)) (.int .i64 ins) (.int .i64 p1) (.int .i64 p2) (.slice vA b.length vc) (.int .i64 65536) (.slice xA k1.length xc) (.slice yA k2.length yc) (.int .i64 (n+1))
         rw [<-HW5.out]at q
         obtain⟨q2,q3⟩:=q
         obtain⟨y0,y1,y2,y3,y4,y5,_⟩:=ja q2
         obtain⟨x0,x1,x2,_⟩:=j7 q3
         refine bodyPost_ret (v:=.tuple #[.agg #[.int .i64 ((m:Int)+12),.int .i64 ins,.int .i64 p1,.int .i64 p2,.slice vA b.length vc,.int .i64 65536],.agg #[.slice xA k1.length xc,.slice yA k2.length yc,.int .i64 (n+1)],.int .i64 0]) (by simp only [set3]at y0 y1 y2 y3 y4 y5 x0 x1 x2;simp [results,Tryz.results23,go_sem,y0,y1,y2,y3,y4,y5,x0,x1,x2]) rfl ?_
         rw [R.out]
         have hk:=fun(v:Value) (L:List UInt8) (h:Bs wd wd.heap.size v L)=>Jo (W:=wd) RR4.out RS4.out (.int .i64 ((m:Int)+12)) (.int .i64 ins) (.int .i64 p1) (.int .i64 p2) (.slice vA b.length vc) (.int .i64 65536) (.slice xA k1.length xc) (.slice yA k2.length yc) (.int .i64 (n+1)) h
         rw [<-HW5.out]at hk
         have hbw:=jj (p:=(w.heap.size+1+1)) (a:=.int .i64 ((m:Int)+12)) (b:=.int .i64 ins) (c:=.int .i64 p1) (d:=.int .i64 p2) (e:=.slice vA b.length vc) (f:=.int .i64 65536) (x:=.slice xA k1.length xc) (y:=.slice yA k2.length yc) (z:=.int .i64 (n+1)) HB4.out (by omega)
         rw [<-HW5.out]at hbw
         exact⟨_,_,rfl,⟨_,rfl,hk _ _ V4.out⟩,⟨_,_,rfl,hk _ _ X4.out,hk _ _ Y4.out⟩,hbw⟩
   ·have h9:¬((m:Int) / 4 % 4=0):=by omega
    have a2:(((m / 4 % 4*4:Nat):Int) != 0)=true:=by simp;omega
    have R:Hid (q6 k1 k2 n ⟨m,ins,p1,p2,data,ex⟩=(14,zC,[],[],0)):=iH (by unfold q6;rw [iF (by rw [HVS.out];simp),iF (by rw [HVC.out];simp),iT (by unfold Jb;rw [Bool.and_eq_false_iff];exact .inl (decide_eq_false (by omega)))])
    obtain⟨z,hz⟩:∃z:Int,((m / 4 % 4*4:Nat):Int)=z:=⟨_,rfl⟩
    rw [hz]at a1 a2
    clear g1 hm o1 hz h9
    go_enter Tryz.func23,Tryz.ntmps23
    go_upto_region 1 with fail
    rw [<-HWS.out,<-HWC.out,<-HW2.out,<-HW3.out]
    obtain⟨f0,f1,f2⟩:=CS.out wa iB
    go_upto_region 2 with (first
     |(go_at_call 48;have M1:=HBV;go_loud(refine(kF _ _ _ wv (HCV.out wv HBV.out)).mono ?_;rw [HVC.out];rintro e wc ⟨rfl,hb⟩;have hb2:=HBV.out.trans (hb.mono HBV.out.size);have HBC:=iH hb2;clear g0 g1 g2 g3 g4 g5;obtain⟨g0,g1,g2,g3,g4,g5⟩:=CC.out wc hb2;clear f0 f1 f2;obtain⟨f0,f1,f2⟩:=CS.out wc hb2;clear hb hb2))
     |(go_at_call 47;refine(jr _ k1 k2 n _ wa HSV.out).mono ?_;rw [HVS.out];rintro e wv ⟨rfl,hb⟩;have HBV:=iH hb;obtain⟨g0,g1,g2,g3,g4,g5⟩:=CC.out wv hb;clear hb))
    clear f0 f1 f2 g0 g1 g2 g3 g4 g5 a1 a2
    obtain⟨r0,r1,r2,r3,r4,r5,rf⟩:=ja (R2.out wc HBC.out);have rf0:=rf 0;have rf1:=rf 1;have rf2:=rf 2;have rf3:=rf 3;have rf4:=rf 4;have rf5:=rf 5;clear rf;obtain⟨s0,s1,s2,sf⟩:=j7 (R3.out wc HBC.out);have sf0:=sf 0;have sf1:=sf 1;have sf2:=sf 2;clear sf
    go_wp2_with fail
    obtain⟨q2,q3⟩:=jo (R2.out wc HBC.out) (R3.out wc HBC.out) (.int .i64 0) (.int .i64 0) (.int .i64 0) (.int .i64 0) (.slice none 0 0) (.int .i64 0) (.slice none 0 0) (.slice none 0 0) (.int .i64 0)
    obtain⟨y0,y1,y2,y3,y4,y5,_⟩:=ja q2
    obtain⟨x0,x1,x2,_⟩:=j7 q3
    refine bodyPost_ret (v:=.tuple #[.agg #[.int .i64 0,.int .i64 0,.int .i64 0,.int .i64 0,.slice none 0 0,.int .i64 0],.agg #[.slice none 0 0,.slice none 0 0,.int .i64 0],.int .i64 14]) (by simp only [set6,set3]at y0 y1 y2 y3 y4 y5 x0 x1 x2;simp [results,Tryz.results23,go_sem,y0,y1,y2,y3,y4,y5,x0,x1,x2]) rfl ?_
    rw [R.out]
    exact⟨_,_,rfl,⟨_,rfl,BsS.nil0 _ _⟩,⟨_,_,rfl,BsS.nil0 _ _,BsS.nil0 _ _⟩,jj (HB.out.trans (Below.mono HBC.out HB.out.size)) (by omega)⟩
  ·have HVC:Hid (vC ⟨cl,ins,p1,p2,data,ex⟩=false):=iH (by simpa using v2)
   have R:Hid (q6 k1 k2 n ⟨cl,ins,p1,p2,data,ex⟩=(14,zC,[],[],0)):=iH (by unfold q6;rw [iF (by rw [v1];simp),iT HVC.out])
   clear v1 v2
   go_enter Tryz.func23,Tryz.ntmps23
   go_upto_region 1 with fail
   rw [<-HWS.out,<-HWC.out,<-HW2.out,<-HW3.out]
   obtain⟨f0,f1,f2⟩:=CS.out wa iB
   go_upto_region 2 with (first
    |(go_at_call 48;have M1:=HBV;go_loud(refine(kF _ _ _ wv (HCV.out wv HBV.out)).mono ?_;rw [HVC.out];rintro e wc ⟨rfl,hb⟩;have hb2:=HBV.out.trans (hb.mono HBV.out.size);have HBC:=iH hb2;clear g0 g1 g2 g3 g4 g5;obtain⟨g0,g1,g2,g3,g4,g5⟩:=CC.out wc hb2;clear f0 f1 f2;obtain⟨f0,f1,f2⟩:=CS.out wc hb2;clear hb hb2))
    |(go_at_call 47;refine(jr _ k1 k2 n _ wa HSV.out).mono ?_;rw [HVS.out];rintro e wv ⟨rfl,hb⟩;have HBV:=iH hb;obtain⟨g0,g1,g2,g3,g4,g5⟩:=CC.out wv hb;clear hb))
   clear f0 f1 f2 g0 g1 g2 g3 g4 g5
   obtain⟨r0,r1,r2,r3,r4,r5,rf⟩:=ja (R2.out wc HBC.out);have rf0:=rf 0;have rf1:=rf 1;have rf2:=rf 2;have rf3:=rf 3;have rf4:=rf 4;have rf5:=rf 5;clear rf;obtain⟨s0,s1,s2,sf⟩:=j7 (R3.out wc HBC.out);have sf0:=sf 0;have sf1:=sf 1;have sf2:=sf 2;clear sf
   go_wp2_with fail
   obtain⟨q2,q3⟩:=jo (R2.out wc HBC.out) (R3.out wc HBC.out) (.int .i64 0) (.int .i64 0) (.int .i64 0) (.int .i64 0) (.slice none 0 0) (.int .i64 0) (.slice none 0 0) (.slice none 0 0) (.int .i64 0)
   obtain⟨y0,y1,y2,y3,y4,y5,_⟩:=ja q2
   obtain⟨x0,x1,x2,_⟩:=j7 q3
   refine bodyPost_ret (v:=.tuple #[.agg #[.int .i64 0,.int .i64 0,.int .i64 0,.int .i64 0,.slice none 0 0,.int .i64 0],.agg #[.slice none 0 0,.slice none 0 0,.int .i64 0],.int .i64 14]) (by simp only [set6,set3]at y0 y1 y2 y3 y4 y5 x0 x1 x2;simp [results,Tryz.results23,go_sem,y0,y1,y2,y3,y4,y5,x0,x1,x2]) rfl ?_
   rw [R.out]
   exact⟨_,_,rfl,⟨_,rfl,BsS.nil0 _ _⟩,⟨_,_,rfl,BsS.nil0 _ _,BsS.nil0 _ _⟩,jj (HB.out.trans (Below.mono HBC.out HB.out.size)) (by omega)⟩
 ·have HVS:Hid (vS k1 k2 n=false):=iH (by simpa using v1)
  have R:Hid (q6 k1 k2 n ⟨cl,ins,p1,p2,data,ex⟩=(14,zC,[],[],0)):=iH (by unfold q6;rw [iT HVS.out])
  clear v1
  go_enter Tryz.func23,Tryz.ntmps23
  go_upto_region 1 with fail
  rw [<-HWS.out,<-HWC.out,<-HW2.out,<-HW3.out]
  obtain⟨f0,f1,f2⟩:=CS.out wa iB
  go_upto_region 2 with (go_at_call 47;refine(jr _ k1 k2 n _ wa HSV.out).mono ?_;rw [HVS.out];rintro e wv ⟨rfl,hb⟩;have HBV:=iH hb;obtain⟨g0,g1,g2,g3,g4,g5⟩:=CC.out wv hb;clear hb)
  clear f0 f1 f2 g0 g1 g2 g3 g4 g5
  obtain⟨r0,r1,r2,r3,r4,r5,rf⟩:=ja (R2.out wv HBV.out);have rf0:=rf 0;have rf1:=rf 1;have rf2:=rf 2;have rf3:=rf 3;have rf4:=rf 4;have rf5:=rf 5;clear rf;obtain⟨s0,s1,s2,sf⟩:=j7 (R3.out wv HBV.out);have sf0:=sf 0;have sf1:=sf 1;have sf2:=sf 2;clear sf
  go_wp2_with fail
  obtain⟨q2,q3⟩:=jo (R2.out wv HBV.out) (R3.out wv HBV.out) (.int .i64 0) (.int .i64 0) (.int .i64 0) (.int .i64 0) (.slice none 0 0) (.int .i64 0) (.slice none 0 0) (.slice none 0 0) (.int .i64 0)
  obtain⟨y0,y1,y2,y3,y4,y5,_⟩:=ja q2
  obtain⟨x0,x1,x2,_⟩:=j7 q3
  refine bodyPost_ret (v:=.tuple #[.agg #[.int .i64 0,.int .i64 0,.int .i64 0,.int .i64 0,.slice none 0 0,.int .i64 0],.agg #[.slice none 0 0,.slice none 0 0,.int .i64 0],.int .i64 14]) (by simp only [set6,set3]at y0 y1 y2 y3 y4 y5 x0 x1 x2;simp [results,Tryz.results23,go_sem,y0,y1,y2,y3,y4,y5,x0,x1,x2]) rfl ?_
  rw [R.out]
  exact⟨_,_,rfl,⟨_,rfl,BsS.nil0 _ _⟩,⟨_,_,rfl,BsS.nil0 _ _,BsS.nil0 _ _⟩,jj (HB.out.trans (Below.mono HBV.out HB.out.size)) (by omega)⟩
end Go.Proofs.YtadndhgebgjlaaaGreat
