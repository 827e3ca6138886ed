/- Layer 21: awake; the reference's TerminalStep; PasswordSteps. -/
import Derived.Test.YtalmmiojbmpmiaaGreatDoorPBt
import Derived.Test.YtalmmiojbmpmiaaGreatDoorPBv
import Derived.Test.YtalmmiojbmpmiaaGreatDoorPBw
import Derived.Test.YtalmmiojbmpmiaaGreatDoorPBx
import Derived.Test.YtalmmiojbmpmiaaGreatDoorPBo
import Derived.Test.YtalmmiojbmpmiaaGreatDoorPBp
import Derived.Test.YtalmmiojbmpmiaaGreatDoorPBr
import Derived.Test.YtalmmiojbmpmiaaGreatDoorPh
import Derived.Test.YtalmmiojbmpmiaaGreatDoorPp
import Derived.ChangeOld
import Derived.ChangeArms
import Derived.SizedLaws
import Derived.Deep.Slices
import Derived.OpenShut
import Derived.ShutString
import Derived.ProofKit
import Derived.WalkKit
import Derived.LaidMore
import Derived.Below
set_option linter.all false
set_option maxRecDepth 100000
set_option maxHeartbeats 64000000
namespace Go.Proofs.YtalmmiojbmpmiaaGreatDoor
open Go.RowKit Go.Deep
section
variable(X:Exg)(sA nA aA bA:Option Addr)(sc nc ac bc:Nat)(vA eA:Option Addr)(vc ec:Nat)(B s:List UInt8)(w:World)(hK:KD w)(h1:Bs w w.heap.size (.slice sA X.sec.length sc) X.sec)(h2:Bs w w.heap.size (.slice nA X.non.length nc) X.non)(h3:Bs w w.heap.size (.slice aA X.k1.length ac) X.k1)(h4:Bs w w.heap.size (.slice bA X.k2.length bc) X.k2)(h5:Bs w w.heap.size (.slice vA B.length vc) B)(h6:Bs w w.heap.size (.slice eA s.length ec) s)(ls:X.sec.length<=140737488351232)(ln:X.non.length<=140737488351232)(l1:X.k1.length<=140737488351232)(l2:X.k2.length<=140737488351232)(hl:s.length<=140737488351232)(hst:X.st=0)
include X sA nA aA bA sc nc ac bc vA eA vc ec B s w hK h1 h2 h3 h4 h5 h6 ls ln l1 l2 hl hst
theorem j18(hus:usT X=true)(hB:B.length=0):Calls Tryz.prog 35 #[.agg #[.int .i64 X.kd,.slice sA X.sec.length sc,.int .i64 X.pr,.int .i64 X.st,.slice nA X.non.length nc,.int .i64 X.x,.int .i64 X.g,.int .i64 X.own,.int .i64 X.oth,.slice aA X.k1.length ac,.slice bA X.k2.length bc,.int .i64 X.ct],.slice vA B.length vc,.slice eA s.length ec] w (ExO (0,{X with st:=X.st+1},jB 0 [],s) w):=by
 have hr:jl X B s=(0,{X with st:=X.st+1},jB 0 [],s):=by
  unfold jl
  rw [iF (by omega),iF (by rw [hus];simp),iT hst,iF (by omega),hst]
  rfl
 rw [<-hr]
 exact kM X sA nA aA bA sc nc ac bc vA eA vc ec B s w hK h1 h2 h3 h4 h5 h6 ls ln l1 l2 hl 89 (.inl ⟨hst,rfl⟩) (by omega) hus [] (by unfold Zp;rw [iT hst,iT hB]) (.inr ⟨(-1),X,[],s,(jB 0 []),rfl,(fun A c W _=>Kc _ W),(fun P sA nA aA bA sc nc ac bc vA eA vc ec w k r h1 h2 h3 h4 h5 h6 h7=>Vn P X sA nA aA bA sc nc ac bc vA eA vc ec [] s w k r h1 h2 h3 h4 h5 h6 h7),(.inl ⟨by omega,hr⟩)⟩)
theorem Vw(hus:usC X=true)(hB:kB B 0 (Xc X)=some []):Calls Tryz.prog 33 #[.agg #[.int .i64 X.kd,.slice sA X.sec.length sc,.int .i64 X.pr,.int .i64 X.st,.slice nA X.non.length nc,.int .i64 X.x,.int .i64 X.g,.int .i64 X.own,.int .i64 X.oth,.slice aA X.k1.length ac,.slice bA X.k2.length bc,.int .i64 X.ct],.slice vA B.length vc,.slice eA s.length ec] w (ExO (0,{X with non:=jt s 16,st:=X.st+1},jB 128 (qr X.kd X.sec (jt s 16)).2,sdW s) w):=by
 have hp:vPw X.kd X.sec=true:=by
  unfold usC kj at hus
  rcases h:vPw X.kd X.sec with _|_
  ·rw [h]at hus;simp at hus
  ·rfl
 have htg:yl X.st=0:=by unfold yl;rw [iT hst]
 have hd:(jt s 16).length=16:=by unfold jt;rw [List.length_take,je];omega
 have hh:qr X.kd X.sec (jt s 16)=(0,qg (kX X.kd X.sec) Z16 (jt s 16)):=by
  unfold qr
  rw [iF (by rw [hp];simp),iF (by omega)]
 have hr:jv X B s=(0,{X with non:=jt s 16,st:=X.st+1},jB 128 (qr X.kd X.sec (jt s 16)).2,sdW s):=by
  unfold jv
  rw [iF (by omega),iF (by rw [hus];simp),htg,hB]
  simp only []
  rw [iT hst,hst]
  rfl
 rw [<-hr]
 exact qc X sA nA aA bA sc nc ac bc vA eA vc ec B s w hK h1 h2 h3 h4 h5 h6 ls ln l1 l2 hl 71 (.inl ⟨hst,rfl⟩) (by omega) hus [] (by rw [htg];exact hB) (.inr ⟨128,{X with non:=jt s 16},(qr X.kd X.sec (jt s 16)).2,(sdW s),⟨by omega,by omega⟩,rfl,(by rw [hh];show(qg (kX X.kd X.sec) Z16 (jt s 16)).length<=64;rw [VL _ _ _ hd];omega),(fun P sA nA aA bA sc nc ac bc vA eA vc ec w k r h1 h2 h3 h4 h5 h6 h7=>zR P X sA nA aA bA sc nc ac bc vA eA vc ec [] s w k r h1 h2 h3 h4 h5 h6 h7 hp),hr⟩)
end
theorem qV(w:World)(hK:KD w):Calls Tryz.prog 11 #[] w fun e w'=>e=.returned (.bool true)/\Below w.heap.size w w':=by
 obtain⟨w1,hw1⟩:∃z,z=(w.alloc (.cells #[.int .u8 49,.int .u8 50,.int .u8 51,.int .u8 52,.int .u8 53,.int .u8 54] 5 (6,7))).alloc (.cells #[.int .i64 2,.slice (some ⟨w.heap.size,0,none⟩) 6 6] 24):=⟨_,rfl⟩
 have hb1:Below w.heap.size w w1:=by rw [hw1];exact yI w _ _
 have hh6:(w.alloc (.cells #[.int .u8 49,.int .u8 50,.int .u8 51,.int .u8 52,.int .u8 53,.int .u8 54] 5 (6,7))).heap[w.heap.size]?=some (.cells #[.int .u8 49,.int .u8 50,.int .u8 51,.int .u8 52,.int .u8 53,.int .u8 54] 5 (6,7)):=iN
 have hl6:BsS (w.alloc (.cells #[.int .u8 49,.int .u8 50,.int .u8 51,.int .u8 52,.int .u8 53,.int .u8 54] 5 (6,7))) (New w (w.alloc (.cells #[.int .u8 49,.int .u8 50,.int .u8 51,.int .u8 52,.int .u8 53,.int .u8 54] 5 (6,7)))) (.slice (some ⟨w.heap.size,0,none⟩) 6 6) [49,50,51,52,53,54]:=by
  refine⟨_,6,rfl,by simp,by omega,by simp,fun _=>⟨w.heap.size,0,rfl,⟨Nat.le_refl _,by simp⟩,fun j hj=> ?_⟩⟩
  have hj:j<6:=hj
  obtain rfl|rfl|rfl|rfl|rfl|rfl:j=0\/j=1\/j=2\/j=3\/j=4\/j=5:=by omega
  all_goals(rw [cell_of_row _ _ _ _ _ _ hh6]<;>rfl)
 obtain⟨S6,hS6⟩:∃l:List UInt8,l= [49,50,51,52,53,54]:=⟨_,rfl⟩
 rw [<-hS6]at hl6
 have hS6l:S6.length=6:=by rw [hS6]<;>rfl
 have H6:Hid (Bs w1 w1.heap.size (.slice (some ⟨w.heap.size,0,none⟩) 6 6) S6):=iH (by rw [hw1];exact hl6.keep fun g hg hl=>⟨Below.heap_alloc _ _ _ hl,iZ hl (by simp)⟩)
 obtain⟨c0,c1,_⟩:=two (show w1.heap[w.heap.size+1]?=some (.cells #[.int .i64 2,.slice (some ⟨w.heap.size,0,none⟩) 6 6] 24 (0,0))by rw [hw1];have:=heap_alloc_new (w.alloc (.cells #[.int .u8 49,.int .u8 50,.int .u8 51,.int .u8 52,.int .u8 53,.int .u8 54] 5 (6,7))) (.cells #[.int .i64 2,.slice (some ⟨w.heap.size,0,none⟩) 6 6] 24);simpa using this)
 have hvp:vPw 2 S6=true:=by rw [hS6];decide
 obtain⟨X,hX⟩:∃X,bgX 2 S6 2=X:=⟨_,rfl⟩
 have hbg:Kt 2 S6 2=(0,X):=by unfold Kt;rw [iF (by rw [hvp];simp),iF (by simp),hX]
 have HBG:=iH (Vq 2 S6 (some ⟨w.heap.size,0,none⟩) 6 2 w1 (by rw [hS6l];exact H6.out) (by omega))
 rw [hbg,hS6l]at HBG
 have hXs:X.st=0:=by rw [<-hX]<;>rfl
 have hXe:X.sec=S6:=by rw [<-hX]<;>rfl
 have hXk:X.kd=2:=by rw [<-hX]<;>rfl
 have hXn:X.non= []/\X.k1= []/\X.k2= []/\X.pr=2:=by rw [<-hX];exact⟨rfl,rfl,rfl,rfl⟩
 have hbX:kj X=true:=by unfold kj;rw [hXk,hXe,hvp,hXn.2.2.2];decide
 have hut:usT X=true:=by unfold usT;rw [hbX,hXs];simp
 have huc:usC X=true:=by unfold usC;rw [hbX,hXs];simp
 have hls:X.sec.length<=140737488351232:=by rw [hXe,hS6l];omega
 have hln:X.non.length<=140737488351232:=by rw [hXn.1];simp
 have hl1:X.k1.length<=140737488351232:=by rw [hXn.2.1];simp
 have hl2:X.k2.length<=140737488351232:=by rw [hXn.2.2.1];simp
 obtain⟨Y,hY⟩:∃Y:Exg,{X with st:=X.st+1}=Y:=⟨_,rfl⟩
 have hYs:(Y.st==1)=true:=by rw [<-hY,hXs]<;>rfl
 obtain⟨U,hU⟩:∃U,jB 0 []=U:=⟨_,rfl⟩
 have hUl:U.length=2:=by rw [<-hU]<;>rfl
 have tU:((U.length:Int)==2)=true:=by rw [hUl]<;>rfl
 obtain⟨Z,hZ⟩:∃Z:Exg,{X with non:=jt [1] 16,st:=X.st+1}=Z:=⟨_,rfl⟩
 have hd:(jt [1] 16).length=16:=by unfold jt;rw [List.length_take,je];omega
 have hZs:(Z.st==1)=true:=by rw [<-hZ,hXs]<;>rfl
 have hZn:Z.non.length=16:=by rw [<-hZ];exact hd
 have tZ:((Z.non.length:Int)==16)=true:=by rw [hZn]<;>rfl
 obtain⟨V,hV⟩:∃V,jB 128 (qr X.kd X.sec (jt [1] 16)).2=V:=⟨_,rfl⟩
 have hVl:V.length=20:=by
  have hh:qr X.kd X.sec (jt [1] 16)=(0,qg (kX X.kd X.sec) Z16 (jt [1] 16)):=by
   unfold qr
   rw [iF (by rw [hXk,hXe,hvp];simp),iF (by omega)]
  rw [hh]at hV
  obtain⟨q,hq⟩:∃q,qg (kX X.kd X.sec) Z16 (jt [1] 16)=q:=⟨_,rfl⟩
  have hql:q.length=16:=by rw [<-hq];exact VL _ _ _ hd
  rw [<-hV,hq,(KZ 128 q (.inr ⟨by omega,by omega⟩) (by omega)).2.1]
  have c124:kr 124=true:=by decide
  have c128:kr 128=false:=by decide
  have i1:(Ns.cons 128 q .nil .nil).enc.length=18:=by simp [Ns.enc,c128,hql,qL,ki]
  have i2:∀K:Ns,(Ns.cons 124 [] K .nil).enc=ki 124++qL K.enc.length++K.enc:=by intro K;simp [Ns.enc,c124]
  unfold kR
  rw [iF (by omega),i2,i1]
  simp [i1,qL,ki]
 have tV:((V.length:Int)==20)=true:=by rw [hVl]<;>rfl
 have hval:kB U 0 (Xc X)=some []:=by rw [<-hU];exact j1g _
 have HW1:=iH hw1;have HB1:=iH hb1;have HK:=iH hK
 have HX:=iH (And.intro hXs (And.intro hut (And.intro huc hval)))
 have HL:=iH (And.intro hls (And.intro hln (And.intro hl1 hl2)))
 have HUU:=iH hU;have HVV:=iH hV;have HYY:=iH hY;have HZZ:=iH hZ
 clear hw1 hb1 hl6 hS6 hS6l H6 hvp hX hbg hXs hXe hXk hXn hbX hut huc hls hln hl1 hl2 hU hUl hV hVl hY hZ hd hZn hval hK
 have HCV:(convert 22 22 (.slice (some ⟨w.heap.size,0,none⟩) 6 6)).run Tryz.prog (w.alloc (.cells #[.int .u8 49,.int .u8 50,.int .u8 51,.int .u8 52,.int .u8 53,.int .u8 54] 5))=.ok (.slice (some ⟨w.heap.size,0,none⟩) 6 6) (w.alloc (.cells #[.int .u8 49,.int .u8 50,.int .u8 51,.int .u8 52,.int .u8 53,.int .u8 54] 5 (6,7))):=Lib.run_convert_bytes_const (P:=Tryz.prog) w 22 5 _ 6 6 Tryz.underlying22 Tryz.underlying5
 go_enter Tryz.func11,Tryz.ntmps11
 go_upto_region 2 with fail
 rw [<-HW1.out]
 go_upto_region 3 with (go_at_call 30;refine HBG.out.mono ?_;rintro e w2 ⟨y,rfl,⟨u1,u2,u3,u4,rfl,hs,hn,ha,hb⟩,hbw⟩;obtain⟨sx,scx,hp⟩:=Bs.formL hs;subst hp;obtain⟨nx,ncx,hp⟩:=Bs.formL hn;subst hp;obtain⟨ax,acx,hp⟩:=Bs.formL ha;subst hp;obtain⟨bx,bcx,hp⟩:=Bs.formL hb;subst hp;have S_x:=iH hs;have Nx:=iH hn;have Ax:=iH ha;have Bx:=iH hb;clear hs hn ha hb;have HB2:=iH (HB1.out.trans (hbw.mono HB1.out.size));clear hbw c0 c1)
 obtain⟨w3,hw⟩:∃z,z=w2.alloc (.cells (exX X sx nx ax bx scx ncx acx bcx) 48):=⟨_,rfl⟩
 rw [<-hw]
 have RX:Hid (w3.heap[w2.heap.size]?=some (.cells (exX X sx nx ax bx scx ncx acx bcx) 48 (0,0))):=iH (by rw [hw];exact iN)
 have hbw3:Below w2.heap.size w2 w3:=by rw [hw];exact jo _ _
 clear hw
 have HB3:=iH (HB2.out.trans (hbw3.mono HB2.out.size));have HU3:=iH hbw3
 have f:=j4 RX.out
 clear hbw3
 go_upto_region 4 with (go_at_call 35;refine(j18 X sx nx ax bx scx ncx acx bcx none none 0 0 [] [] w3 (HK.out.below HB3.out HK.out.lt) (Bs.lift S_x.out HU3.out) (Bs.lift Nx.out HU3.out) (Bs.lift Ax.out HU3.out) (Bs.lift Bx.out HU3.out) (k8 _ _) (k8 _ _) HL.out.1 HL.out.2.1 HL.out.2.2.1 HL.out.2.2.2 (by simp) HX.out.1 HX.out.2.1 rfl).mono ?_;rw [HYY.out,HUU.out];rintro e w4 ⟨y,dA,dc,tA,tc,rfl,⟨u1,u2,u3,u4,rfl,hs,hn,ha,hb⟩,hd,_,hbw⟩;obtain⟨sv,scv,hp⟩:=Bs.formL hs;subst hp;obtain⟨nv,ncv,hp⟩:=Bs.formL hn;subst hp;obtain⟨av,acv,hp⟩:=Bs.formL ha;subst hp;obtain⟨bv,bcv,hp⟩:=Bs.formL hb;subst hp;have Sv:=iH hs;have Nv:=iH hn;have Av:=iH ha;have Bv:=iH hb;clear hs hn ha hb;have DD:=iH hd;have HB4:=iH hbw;have g:=j4 ((hbw.block _ (lt_of_block RX.out)).trans RX.out);clear hd hbw f)
 obtain⟨w5,hw⟩:∃z,z=w4.alloc (.cells (exX Y sv nv av bv scv ncv acv bcv) 48):=⟨_,rfl⟩
 rw [<-hw]
 have RY:Hid (w5.heap[w4.heap.size]?=some (.cells (exX Y sv nv av bv scv ncv acv bcv) 48 (0,0))):=iH (by rw [hw];exact iN)
 have hbw5:Below w4.heap.size w4 w5:=by rw [hw];exact jo _ _
 clear hw
 have HU5:=iH hbw5
 have HB5:=iH (HB4.out.trans (hbw5.mono HB4.out.size))
 clear g
 have f:=j4 ((HB5.out.block _ (lt_of_block RX.out)).trans RX.out)
 clear hbw5
 obtain⟨w6,hw6⟩:∃z,z=w5.alloc (.cells #[.int .u8 1] 5):=⟨_,rfl⟩
 have hl1:BsS w6 (New w5 w6) (.slice (some ⟨w5.heap.size,0,none⟩) 1 1) [1]:=by rw [hw6];exact yq w5 [1] 5 (by simp) _ rfl
 have hb6:Below w5.heap.size w5 w6:=by rw [hw6];exact jo _ _
 have HW6:=iH hw6
 have HL1:Hid (Bs w6 w6.heap.size (.slice (some ⟨w5.heap.size,0,none⟩) 1 1) [1]):=iH (hl1.keep fun g hg _=>⟨rfl,hg.2⟩)
 have HB36:=iH (HB5.out.trans (hb6.mono HB5.out.size))
 have DD6:=iH (Bs.lift (Bs.lift DD.out HU5.out) hb6)
 have HY6:=iH ((hb6.block _ (lt_of_block RY.out)).trans RY.out)
 clear hw6 hl1 hb6
 go_upto_region 5 with (go_at_call 33;rw [<-HW6.out];refine(Vw X sx nx ax bx scx ncx acx bcx dA (some ⟨w5.heap.size,0,none⟩) dc 1 U [1] w6 (HK.out.below (HB3.out.trans (HB36.out.mono HB3.out.size)) HK.out.lt) (Bs.lift (Bs.lift S_x.out HU3.out) HB36.out) (Bs.lift (Bs.lift Nx.out HU3.out) HB36.out) (Bs.lift (Bs.lift Ax.out HU3.out) HB36.out) (Bs.lift (Bs.lift Bx.out HU3.out) HB36.out) DD6.out HL1.out HL.out.1 HL.out.2.1 HL.out.2.2.1 HL.out.2.2.2 (by simp) HX.out.1 HX.out.2.2.1 HX.out.2.2.2).mono ?_;rw [HZZ.out,HVV.out];rintro e w7 ⟨y,eA,ec,tA2,tc2,rfl,⟨u1,u2,u3,u4,rfl,hs,hn,ha,hb⟩,_,_,hbw⟩;obtain⟨sz,scz,hp⟩:=Bs.formL hs;subst hp;obtain⟨nz,ncz,hp⟩:=Bs.formL hn;subst hp;obtain⟨az,acz,hp⟩:=Bs.formL ha;subst hp;obtain⟨bz,bcz,hp⟩:=Bs.formL hb;subst hp;have Sz:=iH hs;have Nz:=iH hn;have Az:=iH ha;have Bz:=iH hb;clear hs hn ha hb;have HB7:=iH hbw;clear hbw f)
 obtain⟨w8,hw⟩:∃z,z=w7.alloc (.cells (exX Z sz nz az bz scz ncz acz bcz) 48):=⟨_,rfl⟩
 rw [<-hw]
 have RZ:Hid (w8.heap[w7.heap.size]?=some (.cells (exX Z sz nz az bz scz ncz acz bcz) 48 (0,0))):=iH (by rw [hw];exact iN)
 have hbw8:Below w7.heap.size w7 w8:=by rw [hw];exact jo _ _
 clear hw
 have HB8:=iH (HB7.out.trans (hbw8.mono HB7.out.size))
 have f:=j4 RZ.out
 have g:=j4 ((HB8.out.block _ (lt_of_block HY6.out)).trans HY6.out)
 clear hbw8
 go_wp2_with fail
 go_ret
 exact⟨rfl,(HB3.out.trans (HB36.out.mono HB3.out.size)).trans (HB8.out.mono (HB3.out.trans (HB36.out.mono HB3.out.size)).size)⟩
theorem j3i(X:Exg)(h:1<=X.st/\X.st<=4)(B:List UInt8)(v:Value)(w:World)(hv:Bs w w.heap.size v B):Calls Tryz.prog 78 #[v,.int .i64 (126+2*X.st),.int .i64 (Jk X.pr X.st true)] w (ValOut (kB B (126+2*X.st) (YW X)) w):=by
 have e:Jk X.pr X.st true=((YW X:Nat):Int):=by
  unfold Jk YW
  by_cases h1:X.st=1
  ·rw [iT h1,iT h1]<;>rfl
  ·by_cases h2:X.st=2
   ·rw [iF h1,iF h1,iT h2,iT h2];split<;>rfl
   ·rw [iF h1,iF h1,iF h2,iF h2];split<;>rfl
 rw [e]
 exact Zj (126+2*X.st) (by omega) _ B v w hv
section
variable(X:Exg)(sA nA aA bA:Option Addr)(sc nc ac bc:Nat)(vA eA:Option Addr)(vc ec:Nat)(B s:List UInt8)(w:World)(hK:KR w)(h1:Bs w w.heap.size (.slice sA X.sec.length sc) X.sec)(h2:Bs w w.heap.size (.slice nA X.non.length nc) X.non)(h3:Bs w w.heap.size (.slice aA X.k1.length ac) X.k1)(h4:Bs w w.heap.size (.slice bA X.k2.length bc) X.k2)(h5:Bs w w.heap.size (.slice vA B.length vc) B)(h6:Bs w w.heap.size (.slice eA s.length ec) s)(ls:X.sec.length<=140737488351232)(ln:X.non.length<=140737488351232)(l1:X.k1.length<=140737488351232)(l2:X.k2.length<=140737488351232)(hl:s.length<=140737488351232)
include X sA nA aA bA sc nc ac bc vA eA vc ec B s w hK h1 h2 h3 h4 h5 h6 ls ln l1 l2 hl
theorem Y4(hst:X.st<0\/4<X.st):Calls Tryz.prog 36 #[.agg #[.int .i64 X.kd,.slice sA X.sec.length sc,.int .i64 X.pr,.int .i64 X.st,.slice nA X.non.length nc,.int .i64 X.x,.int .i64 X.g,.int .i64 X.own,.int .i64 X.oth,.slice aA X.k1.length ac,.slice bA X.k2.length bc,.int .i64 X.ct],.slice vA B.length vc,.slice eA s.length ec] w (ExO (jl X B s) w):=by
 have R:Hid (jl X B s=jA 23):=iH (by unfold jl;rw [iT hst])
 obtain⟨w0,HW0,HB0,HSZ,FR,FZ,H1,H2,H3,H4,H5,H6⟩:=YN X sA nA aA bA sc nc ac bc h1 h2 h3 h4 h5 h6
 have HK:=iH hK;have HLN:=iH (And.intro ls (And.intro ln (And.intro l1 l2)));have HL:=iH hl
 have f:=j4 (FR.out w0 iB)
 have z:=j4 (FZ.out w0 iB)
 clear hK h1 h2 h3 h4 h5 h6 ls ln l1 l2 hl
 rcases hst with hst|hst
 all_goals
  go_enter Tryz.func36,Tryz.ntmps36
  go_upto_region 1 with fail
  rw [<-HW0.out]
  go_wp2_with fail
  have y:=j4 ((PtW.start (FZ.out w0 iB)).z12).1
  unfold Go.Proofs.YtalmmiojbmpmiaaGreatDoor.set12 at y
  refine bodyPost_ret (v:=.tuple #[.agg #[.int .i64 0,.slice none 0 0,.int .i64 0,.int .i64 0,.slice none 0 0,.int .i64 0,.int .i64 0,.int .i64 0,.int .i64 0,.slice none 0 0,.slice none 0 0,.int .i64 0],.slice none 0 0,.slice none 0 0,.int .i64 23]) (by simp [results,Tryz.results36,go_sem,y]) rfl ?_
  exact ExO.err R.out ((HB0.out.trans (iB.mono HB0.out.size)).trans (Below.mono (((PtW.start (FZ.out _ iB)).z12).2.2) (Nat.le_succ _)))
theorem QQ(hst:0<=X.st/\X.st<=4)(hus:usT X=false):Calls Tryz.prog 36 #[.agg #[.int .i64 X.kd,.slice sA X.sec.length sc,.int .i64 X.pr,.int .i64 X.st,.slice nA X.non.length nc,.int .i64 X.x,.int .i64 X.g,.int .i64 X.own,.int .i64 X.oth,.slice aA X.k1.length ac,.slice bA X.k2.length bc,.int .i64 X.ct],.slice vA B.length vc,.slice eA s.length ec] w (ExO (jl X B s) w):=by
 have R:Hid (jl X B s=jA 14):=iH (by unfold jl;rw [iF (by omega),iT hus])
 have HUS:=iH hus
 obtain⟨w0,HW0,HB0,HSZ,FR,FZ,H1,H2,H3,H4,H5,H6⟩:=YN X sA nA aA bA sc nc ac bc h1 h2 h3 h4 h5 h6
 have HK:=iH hK;have HLN:=iH (And.intro ls (And.intro ln (And.intro l1 l2)));have HL:=iH hl
 have f:=j4 (FR.out w0 iB)
 have z:=j4 (FZ.out w0 iB)
 clear hK h1 h2 h3 h4 h5 h6 ls ln l1 l2 hl
 clear hus
 go_enter Tryz.func36,Tryz.ntmps36
 go_upto_region 1 with fail
 rw [<-HW0.out]
 go_upto_region 4 with (go_at_call 76;refine(YU X sA nA aA bA sc nc ac bc w0 H3.out H4.out HLN.out.2.2.1 HLN.out.2.2.2).mono ?_;rw [HUS.out];rintro e w1 ⟨rfl,hb⟩;have HB1:=iH hb;clear f;have g:=j4 (FR.out _ hb);clear z;have z:=j4 (FZ.out _ hb);clear hb)
 go_wp2_with fail
 have y:=j4 ((PtW.start (FZ.out w1 HB1.out)).z12).1
 unfold Go.Proofs.YtalmmiojbmpmiaaGreatDoor.set12 at y
 refine bodyPost_ret (v:=.tuple #[.agg #[.int .i64 0,.slice none 0 0,.int .i64 0,.int .i64 0,.slice none 0 0,.int .i64 0,.int .i64 0,.int .i64 0,.int .i64 0,.slice none 0 0,.slice none 0 0,.int .i64 0],.slice none 0 0,.slice none 0 0,.int .i64 14]) (by simp [results,Tryz.results36,go_sem,y]) rfl ?_
 exact ExO.err R.out ((HB0.out.trans (HB1.out.mono HB0.out.size)).trans (Below.mono (((PtW.start (FZ.out _ HB1.out)).z12).2.2) (Nat.le_succ _)))
theorem j3g(hst:0<=X.st/\X.st<=4)(hus:usT X=true):Calls Tryz.prog 36 #[.agg #[.int .i64 X.kd,.slice sA X.sec.length sc,.int .i64 X.pr,.int .i64 X.st,.slice nA X.non.length nc,.int .i64 X.x,.int .i64 X.g,.int .i64 X.own,.int .i64 X.oth,.slice aA X.k1.length ac,.slice bA X.k2.length bc,.int .i64 X.ct],.slice vA B.length vc,.slice eA s.length ec] w (ExO (jl X B s) w):=by
 obtain⟨r,hr⟩:∃r,kB B (126+2*X.st) (YW X)=r:=⟨_,rfl⟩
 obtain⟨VB,hVB⟩:∃l,r.getD []=l:=⟨_,rfl⟩
 obtain⟨IB,hIB⟩:∃b,r.isSome=b:=⟨_,rfl⟩
 have HV:=iH hr;have HVB:=iH hVB;have HIB:=iH hIB
 have HST:Hid (0<=X.st/\X.st<=4):=iH (by omega)
 have HUS:=iH hus
 obtain⟨w0,HW0,HB0,HSZ,FR,FZ,H1,H2,H3,H4,H5,H6⟩:=YN X sA nA aA bA sc nc ac bc h1 h2 h3 h4 h5 h6
 have HK:=iH hK;have HLN:=iH (And.intro ls (And.intro ln (And.intro l1 l2)));have HL:=iH hl
 have f:=j4 (FR.out w0 iB)
 clear hK h1 h2 h3 h4 h5 h6 ls ln l1 l2 hl
 have d0:decide (X.st<0)=false:=decide_eq_false (by have:=HST.out;omega)
 have d3:decide (4<X.st)=false:=decide_eq_false (by have:=HST.out;omega)
 have hs0:0<=X.st:=HST.out.1
 have hs3:X.st<=4:=HST.out.2
 clear hus hst hr hVB hIB
 go_enter Tryz.func36,Tryz.ntmps36
 go_upto_region 1 with fail
 rw [<-HW0.out]
 go_upto_region 5 with (go_at_call 76;refine(YU X sA nA aA bA sc nc ac bc w0 H3.out H4.out HLN.out.2.2.1 HLN.out.2.2.2).mono ?_;rw [HUS.out];rintro e w1 ⟨rfl,hb⟩;have HB1:=iH hb;clear f;have f:=j4 (FR.out _ hb);clear hb)
 go_upto_region 6 with (go_at_call 77;refine(JR X sA nA aA bA sc nc ac bc w1 (H1.out.lift HB1.out) (H2.out.lift HB1.out) (H3.out.lift HB1.out) (H4.out.lift HB1.out) HLN.out.1 HLN.out.2.1 HLN.out.2.2.1 HLN.out.2.2.2).mono ?_;rintro e w3 ⟨sB,nB,aB,bB,sd,nd,ad,bd,rfl,k1,k2,k3,k4,hb⟩;have M1:=iH k1;have M2:=iH k2;have M3:=iH k3;have M4:=iH k4;have HB13:=iH hb;have HB3:=iH (HB1.out.trans (hb.mono HB1.out.size));clear k1 k2 k3 k4 hb f;have k:=j4 (show(w3.alloc (.cells #[.int .i64 0,.slice none 0 0,.int .i64 0,.int .i64 0,.slice none 0 0,.int .i64 0,.int .i64 0,.int .i64 0,.int .i64 0,.slice none 0 0,.slice none 0 0,.int .i64 0] 48)).heap[w3.heap.size]?=some (.cells #[.int .i64 0,.slice none 0 0,.int .i64 0,.int .i64 0,.slice none 0 0,.int .i64 0,.int .i64 0,.int .i64 0,.int .i64 0,.slice none 0 0,.slice none 0 0,.int .i64 0] 48 (0,0)) from iN))
 have hz3:w.heap.size+2<=w3.heap.size:=by have:=HSZ.out;have:=HB3.out.size;omega
 have hz1:w.heap.size+1<w1.heap.size:=by have:=HSZ.out;have:=HB1.out.size;omega
 have hL:∀x∈([(.slice sB X.sec.length sd,X.sec),(.slice nB X.non.length nd,X.non),(.slice aB X.k1.length ad,X.k1),(.slice bB X.k2.length bd,X.k2),(.slice sA X.sec.length sc,X.sec),(.slice nA X.non.length nc,X.non),(.slice aA X.k1.length ac,X.k1),(.slice bA X.k2.length bc,X.k2),(.slice vA B.length vc,B),(.slice eA s.length ec,s)]:List (Value×List UInt8)),BsS w3 (j9 (w.heap.size+1) w3) x.1 x.2:=by
  intro x hx
  simp only [List.mem_cons,List.not_mem_nil,or_false]at hx
  rcases hx with rfl|rfl|rfl|rfl|rfl|rfl|rfl|rfl|rfl|rfl
  ·exact M1.out.madeB hz1
  ·exact M2.out.madeB hz1
  ·exact M3.out.madeB hz1
  ·exact M4.out.madeB hz1
  ·exact BsS.keep (BsS.off (H1.out.lift HB3.out) (FZ.out _ HB3.out) Zo) fun g hs _=>⟨rfl,hs⟩
  ·exact BsS.keep (BsS.off (H2.out.lift HB3.out) (FZ.out _ HB3.out) Zo) fun g hs _=>⟨rfl,hs⟩
  ·exact BsS.keep (BsS.off (H3.out.lift HB3.out) (FZ.out _ HB3.out) Zo) fun g hs _=>⟨rfl,hs⟩
  ·exact BsS.keep (BsS.off (H4.out.lift HB3.out) (FZ.out _ HB3.out) Zo) fun g hs _=>⟨rfl,hs⟩
  ·exact BsS.keep (BsS.off (H5.out.lift HB3.out) (FZ.out _ HB3.out) Zo) fun g hs _=>⟨rfl,hs⟩
  ·exact BsS.keep (BsS.off (H6.out.lift HB3.out) (FZ.out _ HB3.out) Zo) fun g hs _=>⟨rfl,hs⟩
 obtain⟨w4,hw⟩:∃z,z=w3.alloc (.cells (exX X sB nB aB bB sd nd ad bd) 48):=⟨_,rfl⟩
 have hs:RS w w3.heap.size #[.int .i64 X.kd,.slice sA X.sec.length sc,.int .i64 X.pr,.int .i64 X.st,.slice nA X.non.length nc,.int .i64 X.x,.int .i64 X.g,.int .i64 X.own,.int .i64 X.oth,.slice aA X.k1.length ac,.slice bA X.k2.length bc,.int .i64 X.ct] #[.int .i64 X.kd,.slice sB X.sec.length sd,.int .i64 X.pr,.int .i64 X.st,.slice nB X.non.length nd,.int .i64 X.x,.int .i64 X.g,.int .i64 X.own,.int .i64 X.oth,.slice aB X.k1.length ad,.slice bB X.k2.length bd,.int .i64 X.ct] [(.slice sB X.sec.length sd,X.sec),(.slice nB X.non.length nd,X.non),(.slice aB X.k1.length ad,X.k1),(.slice bB X.k2.length bd,X.k2),(.slice sA X.sec.length sc,X.sec),(.slice nA X.non.length nc,X.non),(.slice aA X.k1.length ac,X.k1),(.slice bA X.k2.length bc,X.k2),(.slice vA B.length vc,B),(.slice eA s.length ec,s)] w4:=by rw [hw];exact(RS.start (HB0.out.trans (HB3.out.mono HB0.out.size)) (FR.out _ HB3.out) (FZ.out _ HB3.out) hz3 hL)
 rw [<-hw]
 obtain⟨gy,hgy⟩:∃g,g=w3.heap.size:=⟨_,rfl⟩
 rw [<-hgy]at hs |-
 have S4:=iH hs
 clear hw hs hgy hL hz3 hz1 k
 have f:=j4 S4.out.rx;have g:=j4 S4.out.ry
 go_upto_region 7 with fail
 obtain⟨w5,hw⟩:∃z,z=w4.setCell ⟨gy,3,none⟩ (.int .i64 (X.st+1)):=⟨_,rfl⟩
 rw [<-hw]
 have S5:Hid (RS w gy _ #[.int .i64 X.kd,.slice sB X.sec.length sd,.int .i64 X.pr,.int .i64 (X.st+1),.slice nB X.non.length nd,.int .i64 X.x,.int .i64 X.g,.int .i64 X.own,.int .i64 X.oth,.slice aB X.k1.length ad,.slice bB X.k2.length bd,.int .i64 X.ct] _ w5):=iH (by rw [hw];exact S4.out.set 3 _)
 clear f g;clear hw
 have f:=j4 S5.out.rx;have g:=j4 S5.out.ry
 go_upto_region 8 with (at_builtin;(with_reducible refine j5 rfl (.const (.slice none 0 0)) (.tmp 39) rfl w5.heap.size (.slice none 0 0) [] rfl (OwnB.nil _ _) eA s.length ec s _ rfl (S5.out.at 9 rfl) (by have:=HL.out;simp;omega) iL ?_);intro v6 w6 hgr;rw [List.nil_append]at hgr;obtain⟨eB,ed,hv6⟩:=hgr.1.form;subst hv6;have S6:=iH ((S5.out.on hgr.2.1).add S5.out.lt (hgr.1.out (by have:=HL.out;omega) w5 iL));clear f g;clear hgr;have f:=j4 S6.out.rx;have g:=j4 S6.out.ry)
 by_cases q:X.st=0
 ·have b0:(X.st==0)=true:=by simp [q]
  have hus:=HUS.out
  by_cases hB:B.length=0
  rotate_left
  ·have R:Hid (jl X B s=jA 1):=iH (by unfold jl;rw [iF (by omega),iF (by rw [hus];simp),iT q,iT hB])
   have tB:decide (0<B.length)=true:=decide_eq_true (by omega)
   have tB2:decide ((0:Int)<(B.length:Int))=true:=decide_eq_true (by omega)
   clear hus q hB
   go_upto_region 10 with fail
   clear f g;have z:=j4 S6.out.rz
   go_wp2_with fail
   have y:=j4 ((PtW.start S6.out.rz).z12).1
   have hbel:=iH (S6.out.bel.trans (Below.mono (((PtW.start S6.out.rz).z12).2.2) (Nat.le_succ _)))
   unfold Go.Proofs.YtalmmiojbmpmiaaGreatDoor.set12 at y hbel
   refine bodyPost_ret (v:=.tuple #[.agg #[.int .i64 0,.slice none 0 0,.int .i64 0,.int .i64 0,.slice none 0 0,.int .i64 0,.int .i64 0,.int .i64 0,.int .i64 0,.slice none 0 0,.slice none 0 0,.int .i64 0],.slice none 0 0,.slice none 0 0,.int .i64 1]) (by simp [results,Tryz.results36,go_sem,y]) rfl ?_
   exact ExO.err R.out hbel.out
  ·obtain⟨U,hU⟩:∃U,jB 0 []=U:=⟨_,rfl⟩
   have R:Hid (jl X B s=(0,⟨X.kd,X.sec,X.pr,X.st+1,X.non,X.x,X.g,X.own,X.oth,X.k1,X.k2,X.ct⟩,U,s)):=iH (by unfold jl;rw [iF (by omega),iF (by rw [hus];simp),iT q,iF (by omega),hU,q]<;>rfl)
   have HU0:Hid (∀W,Calls Tryz.prog 86 #[.int .i64 0,.slice none 0 0] W (Q6 U W)):=iH (fun W=>by rw [<-hU];exact j1f _ W)
   have tB:decide (0<B.length)=false:=decide_eq_false (by omega)
   have tB2:decide ((0:Int)<(B.length:Int))=false:=decide_eq_false (by omega)
   clear hus q hB hU
   go_upto_region 11 with fail
   clear f g;have N9:=iH (S6.out.offP 0 rfl);have L0:=iH (S6.out.offP 1 rfl);have L1:=iH (S6.out.offP 2 rfl);have L2:=iH (S6.out.offP 3 rfl);have L3:=iH (S6.out.offP 4 rfl)
   refine ja 7 [some 48,some 49,some 50,none,some 7,some 8,some 9] [[],[],[],[0,1],[0,1,3],[0,1,2,3,4],[0,1,2,3,4,5]]
    (fun _ _ w1=>PtA (w.heap.size+1) w6 w1) (fun w1 w2=>RO (w.heap.size+1) #[.int .i64 X.kd,.slice sB X.sec.length sd,.int .i64 X.pr,.int .i64 (X.st+1),.slice nB X.non.length nd,.int .i64 X.x,.int .i64 X.g,.int .i64 X.own,.int .i64 X.oth,.slice aB X.k1.length ad,.slice bB X.k2.length bd,.int .i64 X.ct] w1 w2)
    [.v (.agg #[.int .i64 X.kd,.slice sB X.sec.length sd,.int .i64 X.pr,.int .i64 (X.st+1),.slice nB X.non.length nd,.int .i64 X.x,.int .i64 X.g,.int .i64 X.own,.int .i64 X.oth,.slice aB X.k1.length ad,.slice bB X.k2.length bd,.int .i64 X.ct]),
     .p (fun v w1=>∃A c,v 1=.slice A U.length c/\BsS w1 (j9 (w.heap.size+1) w1) (.slice A U.length c) U) (fun _ _ _ _ _ hr ⟨A,c,h1,h2⟩=>⟨A,c,h1,h2.grownP hr.1⟩),
     .v (.slice eB s.length ed),
     .p (fun v w1=>w1.heap[w.heap.size+1]?=some (.cells #[.int .i64 X.kd,.slice sB X.sec.length sd,.int .i64 X.pr,.int .i64 (X.st+1),.slice nB X.non.length nd,.int .i64 X.x,.int .i64 X.g,.int .i64 X.own,.int .i64 X.oth,.slice aB X.k1.length ad,.slice bB X.k2.length bd,.int .i64 X.ct] 48 (0,0))) (fun _ _ _ _ _ hr h=>hr.2 h),
     .q fun v=>∃A c,v 1=.slice A U.length c/\v 4=.slice A U.length c,
     .v (.slice eB s.length ed),
     .v (.int .i64 0)]
    (by kernel_rfl) (by kernel_rfl) rfl (fun _=>⟨_,_,_,_,_,_,_,_,_,_,_,_,(PtW.start S6.out.rz).drew⟩) ?steps ?tail
   case steps=>
    simp only [List.take_succ_cons,List.take_zero]
    repeat' (with_reducible first|exact StepsRG.nil|refine StepsRG.cons ?_ ?_)
    all_goals(intro L v w1 hJ hL hF hD K hK;simp only [jb,Act.put,Nat.zero_add,Nat.reduceAdd,List.setIfInBounds_toArray,List.set_cons_zero,List.set_cons_succ,↓jZ,List.getD_cons_zero,List.getD_cons_succ,Nat.reduceEqDiff,↓reduceIte]at hD hK |-)
    all_goals try(have q:=j4 ((hJ.gr.block _ S6.out.lt (by intro e;injection e with e;have:=S6.out.gy2;omega)).trans S6.out.ry);(try simp only [hD]at hK |-);go_simp;refine hK _ _ hJ ⟨World.grownBy.refl _ _,id⟩ ?_;first|exact rfl|exact jh _)
    ·go_simp
     refine(HU0.out w1).mono ?_
     rintro e wk ⟨A3,c3,rfl,hs,hb⟩
     refine hK _ _ (hJ.call hb) ⟨qH hb,fun h=>(hb.block _ hJ.lt).trans h⟩ ⟨_,_,rfl,?_⟩
     exact hs.madeB hJ.lt
    ·simp only [hD]at hK |-
     obtain⟨a0,a1,a2,a3,a4,a5,a6,a7,a8,a9,a10,a11,hp⟩:=hJ
     have q:=j4 hp.1
     have HJq:=iH hp
     clear hp hL hF
     go_simp
     exact hK undef _ ⟨_,_,_,_,_,_,_,_,_,_,_,_,HJq.out.s12⟩ ⟨((PtW.start HJq.out.1).s12).2.1,fun _=>((PtW.start HJq.out.1).s12).1⟩ ((PtW.start HJq.out.1).s12).1
    ·simp only [hD]at hK |-
     obtain⟨A,c,e1,_⟩:∃A c,v 1=_/\_:=hF 1 (by simp)
     simp only [e1]at hK |-
     go_simp
     exact hK _ _ hJ ⟨World.grownBy.refl _ _,id⟩ ⟨A,c,e1,rfl⟩
   case tail=>
    intro v w1 hJ hF hD
    simp only [kE]at hD
    obtain⟨e0,e2,e5,e6, -⟩:=hD
    simp only [List.drop_succ_cons,List.drop_zero,jb,Act.put,Nat.zero_add,Nat.reduceAdd,List.setIfInBounds_toArray,List.set_cons_zero,List.set_cons_succ]
    obtain⟨A7,c7,e1,hu⟩:∃A c,v 1=_/\_:=hF 1 (by simp)
    obtain⟨A8,c8,e1b,e4⟩:∃A c,v 1=_/\v 4=_:=hF 4 (by simp)
    obtain⟨rfl,_,rfl⟩:=Value.slice.inj (e1.symm.trans e1b)
    have h8:w1.heap[w.heap.size+1]?=some (.cells #[.int .i64 X.kd,.slice sB X.sec.length sd,.int .i64 X.pr,.int .i64 (X.st+1),.slice nB X.non.length nd,.int .i64 X.x,.int .i64 X.g,.int .i64 X.own,.int .i64 X.oth,.slice aB X.k1.length ad,.slice bB X.k2.length bd,.int .i64 X.ct] 48 (0,0)):=hF 3 (by simp)
    simp only [e0,e1,e2,e4,e5,e6]
    have HP7:=iH hJ;have HU:=iH hu
    have y:=j4 h8
    clear hJ hF hu h8 e0 e1 e1b e2 e4 e5 e6
    go_wp2_with fail
    refine bodyPost_ret (v:=.tuple #[.agg #[.int .i64 X.kd,.slice sB X.sec.length sd,.int .i64 X.pr,.int .i64 (X.st+1),.slice nB X.non.length nd,.int .i64 X.x,.int .i64 X.g,.int .i64 X.own,.int .i64 X.oth,.slice aB X.k1.length ad,.slice bB X.k2.length bd,.int .i64 X.ct],.slice A7 U.length c7,.slice eB s.length ed,.int .i64 0]) (by simp [results,Tryz.results36,go_sem,y]) rfl ?_
    have hfin:∀ {u:Value} {m:List UInt8},BsS w6 (j9 (w.heap.size+1) w6) u m->Bs w1 w1.heap.size u m:=fun {u m} h=>(h.grownP HP7.out.gr).loB
    have hbel:Below w.heap.size w w1:=S6.out.bel.trans (HP7.out.bel.mono (Nat.le_succ _))
    rw [R.out]
    exact⟨_,_,_,_,_,rfl,⟨_,_,_,_,rfl,hfin L0.out,hfin L1.out,hfin L2.out,hfin L3.out⟩,HU.out.loB,hfin N9.out,hbel⟩
 have b0:(X.st==0)=false:=by simp [q]
 have HQ0:=iH q
 have HVC:Hid (∀v w,Bs w w.heap.size v B->Calls Tryz.prog 78 #[v,.int .i64 (126+2*X.st),.int .i64 (Jk X.pr X.st true)] w fun e w'=>∃v',e=.returned (.tuple #[v',.bool IB])/\BsS w' (New w w') v' VB/\Below w.heap.size w w'):=iH (fun v w h=>by
  have h:=j3i X (by have:=HST.out;omega) B v w h
  rw [HV.out]at h
  unfold ValOut at h
  rw [HVB.out,HIB.out]at h
  exact h)
 clear q
 go_upto_region 12 with fail
 clear f g
 refine ja 15 [some 52,some 53,some 54,some 55,some 56,some 57,some 58,some 59,some 60,some 61,some 51,some 62,some 63,some 12,some 13] [[],[],[1],[1,2],[1,2,3],[],[],[6],[5,6,7],[0,1,2,3,4,5,6,7,8],[0,1,2,3,4,5,6,7,8,9],[0,1,2,3,4,5,6,7,8,9,10],[0,1,2,3,4,5,6,7,8,9,10],[0,1,2,3,4,5,6,7,8,9,10,11],[0,1,2,3,4,5,6,7,8,9,10,11,12,13]]
  (fun _ _ w1=>Below w6.heap.size w6 w1) (fun w1 w2=>Below w1.heap.size w1 w2)
  [.v (.slice vA B.length vc),
   .v (.pointer (some ⟨w.heap.size,3,none⟩)),
   .v (.int .i64 X.st),
   .v (.int .i64 (2*X.st)),
   .v (.int .i64 (126+2*X.st)),
   .v (.agg #[.int .i64 X.kd,.slice sA X.sec.length sc,.int .i64 X.pr,.int .i64 X.st,.slice nA X.non.length nc,.int .i64 X.x,.int .i64 X.g,.int .i64 X.own,.int .i64 X.oth,.slice aA X.k1.length ac,.slice bA X.k2.length bc,.int .i64 X.ct]),
   .v (.pointer (some ⟨w.heap.size,3,none⟩)),
   .v (.int .i64 X.st),
   .v (.int .i64 (Jk X.pr X.st true)),
   .p (fun v w1=>∃A9 c9,v 9=.tuple #[.slice A9 (List.length VB) c9,.bool IB]/\BsS w1 (New w6 w1) (.slice A9 (List.length VB) c9) VB) (fun _ _ _ _ _ hr ⟨A,c,h1,h2⟩=>⟨A,c,h1,h2.keep fun g hg hl=>⟨hr.block g hl,hg.1,iZ hl hr.size⟩⟩),
   .q fun v=>∃A9 c9,v 9=.tuple #[.slice A9 (List.length VB) c9,.bool IB]/\v 10=.tuple #[.slice A9 (List.length VB) c9,.bool IB],
   .q fun v=>∃A9 c9,v 9=.tuple #[.slice A9 (List.length VB) c9,.bool IB]/\v 11=.slice A9 (List.length VB) c9,
   .q fun v=>v 12=.bool IB,
   .q fun v=>∃A9 c9,v 9=.tuple #[.slice A9 (List.length VB) c9,.bool IB]/\v 13=.slice A9 (List.length VB) c9,
   .q fun v=>v 14=.bool IB]
  (by kernel_rfl) (by kernel_rfl) rfl (fun _=>iB.drew) ?stepsv ?tailv
 case stepsv=>
  simp only [List.take_succ_cons,List.take_zero]
  repeat' (with_reducible first|exact StepsRG.nil|refine StepsRG.cons ?_ ?_)
  all_goals(intro L v w1 hJ hL hF hD K hK;simp only [jb,Act.put,Nat.zero_add,Nat.reduceAdd,List.setIfInBounds_toArray,List.set_cons_zero,List.set_cons_succ,↓jZ,List.getD_cons_zero,List.getD_cons_succ,Nat.reduceEqDiff,↓reduceIte]at hD hK |-)
  all_goals try(have q:=j4 ((hJ.block _ (lt_of_block S6.out.rx)).trans S6.out.rx);(try simp only [hD]at hK |-);go_simp;refine hK _ _ hJ iB ?_;first|exact rfl|exact jh _|exact Ua (by have:=HST.out;omega))
  ·simp only [hD]at hK |-
   go_simp
   refine(KT X sA nA aA bA sc nc ac bc X.st true w1).mono ?_
   rintro e wk ⟨rfl,hb⟩
   exact hK _ _ (hJ.trans (hb.mono hJ.size)) hb rfl
  ·simp only [hD]at hK |-
   go_simp
   refine(HVC.out _ w1 (Bs.lift (S6.out.lo 9 rfl) hJ)).mono ?_
   rintro e wk ⟨v9,rfl,hs,hb⟩
   obtain⟨A9,c9,hp⟩:=Bs.formL hs
   subst hp
   exact hK _ _ (hJ.trans (hb.mono hJ.size)) hb ⟨_,_,rfl,hs.keep fun g hg _=>⟨rfl,Nat.le_trans hJ.size hg.1,hg.2⟩⟩
  ·simp only [hD]at hK |-
   obtain⟨A9,c9,e9,_⟩:∃A9 c9,v 9=_/\_:=hF 9 (by simp)
   simp only [e9]at hK |-
   go_simp
   exact hK _ _ hJ iB ⟨A9,c9,e9,rfl⟩
  ·simp only [hD]at hK |-
   obtain⟨A9,c9,e9,e10⟩:∃A9 c9,v 9=_/\v 10=_:=hF 10 (by simp)
   simp only [e9,e10]at hK |-
   go_simp
   exact hK _ _ hJ iB ⟨A9,c9,e9,rfl⟩
  ·simp only [hD]at hK |-
   obtain⟨A9,c9,e9,e10⟩:∃A9 c9,v 9=_/\v 10=_:=hF 10 (by simp)
   simp only [e9,e10]at hK |-
   go_simp
   exact hK _ _ hJ iB rfl
  ·simp only [hD]at hK |-
   obtain⟨A9,c9,e9,e11⟩:∃A9 c9,v 9=_/\v 11=_:=hF 11 (by simp)
   simp only [e9,e11]at hK |-
   go_simp
   exact hK _ _ hJ iB ⟨A9,c9,e9,rfl⟩
  ·simp only [hD]at hK |-
   have e12:v 12=_:=hF 12 (by simp)
   simp only [e12]at hK |-
   go_simp
   exact hK _ _ hJ iB rfl
 intro v w1 hJ hF hD
 simp only [kE]at hD
 obtain⟨e0,e1,e2,e3,e4,e5,e6,e7,e8, -⟩:=hD
 simp only [List.drop_succ_cons,List.drop_zero,jb,Act.put,Nat.zero_add,Nat.reduceAdd,List.setIfInBounds_toArray,List.set_cons_zero,List.set_cons_succ]
 obtain⟨A9,c9,e9,hs⟩:∃A9 c9,v 9=_/\_:=hF 9 (by simp)
 obtain⟨A8,c8,e9b,e13⟩:∃A8 c8,v 9=_/\v 13=_:=hF 13 (by simp)
 have hq:=Yj (e9.symm.trans e9b)
 obtain⟨rfl,_,rfl⟩:=Value.slice.inj hq
 have e14:v 14=_:=hF 14 (by simp)
 obtain⟨A7,c7,_,e11⟩:∃A7 c7,v 9=_/\v 11=_:=hF 11 (by simp)
 have e12:v 12=_:=hF 12 (by simp)
 obtain⟨A6,c6,_,e10⟩:∃A6 c6,v 9=_/\v 10=_:=hF 10 (by simp)
 simp only [e0,e1,e2,e3,e4,e5,e6,e7,e8,e9,e10,e11,e12,e13,e14]
 have S7:=iH ((S6.out.on hJ).add S6.out.lt hs)
 clear hJ hF hs hq e0 e1 e2 e3 e4 e5 e6 e7 e8 e9 e9b e10 e11 e12 e13 e14
 obtain⟨w7,hwx⟩:∃z,z=w1:=⟨_,rfl⟩
 rw [<-hwx]at S7 |-
 clear hwx
 have f:=j4 S7.out.rx;have g:=j4 S7.out.ry
 rcases r with _|val
 ·obtain rfl:IB=false:=HIB.out.symm
  have R:Hid (jl X B s=jA 1):=iH (by have hus:=HUS.out;have hst:=HST.out;have q:=HQ0.out;unfold jl;rw [iF (by omega),iF (by rw [hus];simp),iF (by omega),HV.out])
  go_upto_region 14 with fail
  clear f g;have z:=j4 S7.out.rz
  go_wp2_with fail
  have y:=j4 ((PtW.start S7.out.rz).z12).1
  have hbel:=iH (S7.out.bel.trans (Below.mono (((PtW.start S7.out.rz).z12).2.2) (Nat.le_succ _)))
  unfold Go.Proofs.YtalmmiojbmpmiaaGreatDoor.set12 at y hbel
  refine bodyPost_ret (v:=.tuple #[.agg #[.int .i64 0,.slice none 0 0,.int .i64 0,.int .i64 0,.slice none 0 0,.int .i64 0,.int .i64 0,.int .i64 0,.int .i64 0,.slice none 0 0,.slice none 0 0,.int .i64 0],.slice none 0 0,.slice none 0 0,.int .i64 1]) (by simp [results,Tryz.results36,go_sem,y]) rfl ?_
  exact ExO.err R.out hbel.out
 obtain rfl:IB=true:=HIB.out.symm
 obtain rfl:val=VB:=HVB.out
 have hq:X.st=1\/X.st=2\/X.st=3\/X.st=4:=by have:=HST.out;have:=HQ0.out;omega
 clear HIB HVB HVC HQ0
 go_upto_block 0 with fail
 go_cut [11,14] (fun vn vr wx=>j67 w gy #[.int .i64 X.kd,.slice sA X.sec.length sc,.int .i64 X.pr,.int .i64 X.st,.slice nA X.non.length nc,.int .i64 X.x,.int .i64 X.g,.int .i64 X.own,.int .i64 X.oth,.slice aA X.k1.length ac,.slice bA X.k2.length bc,.int .i64 X.ct] (jl X B s) (127+2*X.st) vn vr wx)
 case first=>
  rcases hq with q|q|q|q
  ·have hus:=HUS.out;have hv:=HV.out
   obtain⟨N,hN⟩:∃N,zp (kX X.kd X.sec) Z16 val=N:=⟨_,rfl⟩
   have hl16:val.length=16:=XZ q hv
   have hNl:N.length=16:=by rw [<-hN];exact j08 _ _ hl16
   have hp:vPw X.kd X.sec=true:=(qJ hus).1
   have hrv:QL X.kd X.sec val=(0,N):=by
    unfold QL
    rw [iF (by rw [hp];simp),iF (by omega),hN]
   have HRV:=iH hrv
   have b1:(X.st==1)=true:=by simp;omega
   have HNL:=iH hNl
   have HQX:=iH q
   clear hus hv q hN hl16 hNl hp hrv
   go_upto_region 23 with (go_at_call 21;refine(ZZ X.kd X.sec sA sc val A9 c9 w7 (HK.out.below S7.out.bel HK.out.lt) (S7.out.lo 6 rfl) (S7.out.lo 0 rfl)).mono ?_;rw [HRV.out];rintro e w8 ⟨v10,rfl,hs,hb⟩;obtain⟨A10,c10,hp⟩:=Bs.formL hs;subst hp;have S8:=iH ((S7.out.on hb).add S7.out.lt hs);clear f g;clear hb hs;have f:=j4 S8.out.rx;have g:=j4 S8.out.ry)
   obtain⟨w9,hw⟩:∃z,z=w8.setCell ⟨gy,4,none⟩ (.slice A10 N.length c10):=⟨_,rfl⟩
   rw [<-hw]
   have S9:Hid (RS w gy _ #[.int .i64 X.kd,.slice sB X.sec.length sd,.int .i64 X.pr,.int .i64 (X.st+1),.slice A10 N.length c10,.int .i64 X.x,.int .i64 X.g,.int .i64 X.own,.int .i64 X.oth,.slice aB X.k1.length ad,.slice bB X.k2.length bd,.int .i64 X.ct] _ w9):=iH (by rw [hw];exact S8.out.set 4 _)
   clear f g;clear hw
   have f:=j4 S9.out.rx;have g:=j4 S9.out.ry
   skip
   clear f g;have f:=j4 S9.out.rx;have g:=j4 S9.out.ry
   have q:=HQX.out;have hrv:=HRV.out;have hNl:=HNL.out
   have hus:=HUS.out;have hv:=HV.out
   obtain⟨SD,hSD⟩:∃l,sdW s=l:=⟨_,rfl⟩
   obtain⟨DN,hDN⟩:∃l,jt s 16=l:=⟨_,rfl⟩
   obtain⟨SK,hKK⟩:∃k,jX s=k:=⟨_,rfl⟩
   have DRW:=iH (xL s DN SD hDN hSD HL.out)
   have SEC:=iH (qs s SD SK hKK hSD HL.out)
   have hDL:DN.length=16:=by rw [<-hDN];exact x8 s
   have hKI:0<=SK/\SK<=1073741789:=by rw [<-hKK];exact yS s
   by_cases hp3:X.pr=3
   ·obtain⟨gi,hi⟩:∃g,yj N DN=(0,g):=⟨_,by unfold yj;rw [iF (fun x=>x ⟨hNl,hDL⟩)]⟩
    have HI:=iH hi
    have tp:(X.pr==3)=true:=by simp [hp3]
    have HTG:Hid (128<=127+2*X.st/\127+2*X.st<=134):=iH ⟨by omega,by omega⟩
    have R:Hid (jl X B s=(0,⟨X.kd,X.sec,X.pr,X.st+1,N,X.x,gi,X.own,X.oth,X.k1,X.k2,X.ct⟩,jB (127+2*X.st) DN,SD)):=iH (by unfold jl;rw [iF (by omega),iF (by rw [hus];simp),iF (by omega),hv];simp only [];rw [iT q,iT hp3,hrv,hDN];simp only [];rw [hi,hSD,q]<;>rfl)
    clear hus hv q hi hp3 hNl hrv hSD hDN hKK hDL hKI
    go_upto_region 25 with (go_at_call 80;refine(DRW.out _ w9 (HK.out.below S9.out.bel HK.out.lt) (S9.out.lo 12 rfl)).mono ?_;rintro e w10 ⟨A11,c11,B9,d9,rfl,h1,h2,hb⟩;have S10:=iH (((S9.out.on hb).add S9.out.lt h2).add S9.out.lt h1);clear f g;clear hb h2 h1;have f:=j4 S10.out.rx;have g:=j4 S10.out.ry)
    go_wp2_with(go_at_call 28;refine(KQ N DN _ _ w10 (HK.out.below S10.out.bel HK.out.lt) (S10.out.lo 2 rfl) (S10.out.lo 0 rfl)).mono ?_;rw [HI.out];rintro e w11 ⟨rfl,hb⟩;have S11:=iH (S10.out.on hb);clear f g;clear hb;have f:=j4 S11.out.rx;have g:=j4 S11.out.ry)
    obtain⟨w12,hw⟩:∃z,z=w11.setCell ⟨gy,6,none⟩ (.int .i64 gi):=⟨_,rfl⟩
    rw [<-hw]
    have S12:Hid (RS w gy _ #[.int .i64 X.kd,.slice sB X.sec.length sd,.int .i64 X.pr,.int .i64 (X.st+1),.slice A10 N.length c10,.int .i64 X.x,.int .i64 gi,.int .i64 X.own,.int .i64 X.oth,.slice aB X.k1.length ad,.slice bB X.k2.length bd,.int .i64 X.ct] _ w12):=iH (by rw [hw];exact S11.out.set 6 _)
    clear f g;clear hw
    have f:=j4 S12.out.rx;have g:=j4 S12.out.ry
    go_meet
    exact⟨⟨X.kd,X.sec,X.pr,X.st+1,N,X.x,gi,X.own,X.oth,X.k1,X.k2,X.ct⟩,DN,SD,sB,A10,aB,bB,A11,B9,sd,c10,ad,bd,c11,d9,rfl,rfl,S12.out.noL,(S12.out.offP 5 rfl),(S12.out.offP 2 rfl),(S12.out.offP 7 rfl),(S12.out.offP 8 rfl),(S12.out.offP 0 rfl),(S12.out.offP 1 rfl),HTG.out,R.out⟩
   ·have tp:(X.pr==3)=false:=by simp [hp3]
    obtain⟨G,hG⟩:∃g,jM 4 SK=g:=⟨_,rfl⟩
    have hgi:=zy 4 SK
    rw [hG]at hgi
    have HPW:=iH (K0 4 SK ⟨by omega,by omega⟩ hKI)
    rw [hG]at HPW
    have HEN:=iH (zB G hgi)
    have HTG:Hid (128<=127+2*X.st/\127+2*X.st<=134):=iH ⟨by omega,by omega⟩
    have R:Hid (jl X B s=(0,⟨X.kd,X.sec,X.pr,X.st+1,N,SK,X.g,X.own,X.oth,X.k1,X.k2,X.ct⟩,jB (127+2*X.st) (jd G),SD)):=iH (by unfold jl;rw [iF (by omega),iF (by rw [hus];simp),iF (by omega),hv];simp only [];rw [iT q,iF hp3,hrv,hKK,hG,hSD,q]<;>rfl)
    clear hus hv q hp3 hNl hrv hSD hDN hKK hDL hKI hG hgi
    go_upto_region 27 with (go_at_call 82;refine(SEC.out _ w9 (HK.out.below S9.out.bel HK.out.lt) (S9.out.lo 12 rfl)).mono ?_;rintro e w10 ⟨B9,d9,rfl,h2,hb⟩;have S10:=iH ((S9.out.on hb).add S9.out.lt h2);clear f g;clear hb h2;have f:=j4 S10.out.rx;have g:=j4 S10.out.ry)
    obtain⟨w11,hw⟩:∃z,z=w10.setCell ⟨gy,5,none⟩ (.int .i64 SK):=⟨_,rfl⟩
    rw [<-hw]
    have S11:Hid (RS w gy _ #[.int .i64 X.kd,.slice sB X.sec.length sd,.int .i64 X.pr,.int .i64 (X.st+1),.slice A10 N.length c10,.int .i64 SK,.int .i64 X.g,.int .i64 X.own,.int .i64 X.oth,.slice aB X.k1.length ad,.slice bB X.k2.length bd,.int .i64 X.ct] _ w11):=iH (by rw [hw];exact S10.out.set 5 _)
    clear f g;clear hw
    have f:=j4 S11.out.rx;have g:=j4 S11.out.ry
    go_wp2_with(first|(go_at_call 83;refine(HEN.out _).mono ?_;rintro e w12 ⟨A12,c12,rfl,hs,hb⟩;have S12:=iH ((S11.out.on hb).add S11.out.lt hs);clear f g;clear hb hs;have f:=j4 S12.out.rx;have g:=j4 S12.out.ry)|(go_at_call 61;refine(HPW.out _).mono ?_;rintro e w' ⟨rfl,hw⟩;rw [hw];clear hw w'))
    go_meet
    exact⟨⟨X.kd,X.sec,X.pr,X.st+1,N,SK,X.g,X.own,X.oth,X.k1,X.k2,X.ct⟩,jd G,SD,sB,A10,aB,bB,A12,B9,sd,c10,ad,bd,c12,d9,rfl,rfl,S12.out.noL,(S12.out.offP 5 rfl),(S12.out.offP 2 rfl),(S12.out.offP 7 rfl),(S12.out.offP 8 rfl),(S12.out.offP 0 rfl),(S12.out.offP 1 rfl),HTG.out,R.out⟩
  ·have hus:=HUS.out;have hv:=HV.out
   by_cases hp3:X.pr=3
   ·have hg:=((qJ hus).2.2.1 q).2.2 hp3
    have tq:(X.pr==2)=false:=by simp [hp3]
    have hn2:¬X.pr=2:=by omega
    obtain⟨SD,hSD⟩:∃l,sdW s=l:=⟨_,rfl⟩
    obtain⟨DN,hDN⟩:∃l,jt s 16=l:=⟨_,rfl⟩
    obtain⟨SK,hKK⟩:∃k,jX s=k:=⟨_,rfl⟩
    have DRW:=iH (xL s DN SD hDN hSD HL.out)
    have SEC:=iH (qs s SD SK hKK hSD HL.out)
    have hDL:DN.length=16:=by rw [<-hDN];exact x8 s
    have hKI:0<=SK/\SK<=1073741789:=by rw [<-hKK];exact yS s
    obtain⟨OW,hOW⟩:∃g,jM X.g SK=g:=⟨_,rfl⟩
    have hgi:=zy X.g SK
    rw [hOW]at hgi
    have hxg:0<=X.g/\X.g<2147483579:=by have:=jF hg;omega
    have HPW:=iH (K0 X.g SK hxg hKI)
    rw [hOW]at HPW
    have HEN:=iH (zB OW hgi)
    have HTG:Hid (128<=127+2*X.st/\127+2*X.st<=134):=iH ⟨by omega,by omega⟩
    have R:Hid (jl X B s=(0,⟨X.kd,X.sec,X.pr,X.st+1,X.non,SK,X.g,OW,X.oth,X.k1,X.k2,X.ct⟩,jB (127+2*X.st) (jd OW),SD)):=iH (by unfold jl;rw [iF (by omega),iF (by rw [hus];simp),iF (by omega),hv];simp only [];rw [iF (by omega),iT q,iF (fun x=>hn2 x.1),iF (fun x=>hn2 x.1),iF hn2,hKK,hOW,hSD,q]<;>rfl)
    have b1:(X.st==1)=false:=by simp;omega
    have b2:(X.st==2)=true:=by simp;omega
    clear hus hv q hp3 hn2 hg hSD hDN hKK hDL hKI hOW hgi hxg
    go_upto_region 37 with (go_at_call 82;refine(SEC.out _ w7 (HK.out.below S7.out.bel HK.out.lt) (S7.out.lo 11 rfl)).mono ?_;rintro e w8 ⟨B9,d9,rfl,h2,hb⟩;have S8:=iH ((S7.out.on hb).add S7.out.lt h2);clear f g;clear hb h2;have f:=j4 S8.out.rx;have g:=j4 S8.out.ry)
    obtain⟨w9,hw⟩:∃z,z=w8.setCell ⟨gy,5,none⟩ (.int .i64 SK):=⟨_,rfl⟩
    rw [<-hw]
    have S9:Hid (RS w gy _ #[.int .i64 X.kd,.slice sB X.sec.length sd,.int .i64 X.pr,.int .i64 (X.st+1),.slice nB X.non.length nd,.int .i64 SK,.int .i64 X.g,.int .i64 X.own,.int .i64 X.oth,.slice aB X.k1.length ad,.slice bB X.k2.length bd,.int .i64 X.ct] _ w9):=iH (by rw [hw];exact S8.out.set 5 _)
    clear f g;clear hw
    have f:=j4 S9.out.rx;have g:=j4 S9.out.ry
    go_upto_region 38 with (go_at_call 61;refine(HPW.out _).mono ?_;rintro e w' ⟨rfl,hw⟩;rw [hw];clear hw w')
    obtain⟨w10,hw⟩:∃z,z=w9.setCell ⟨gy,7,none⟩ (.int .i64 OW):=⟨_,rfl⟩
    rw [<-hw]
    have S10:Hid (RS w gy _ #[.int .i64 X.kd,.slice sB X.sec.length sd,.int .i64 X.pr,.int .i64 (X.st+1),.slice nB X.non.length nd,.int .i64 SK,.int .i64 X.g,.int .i64 OW,.int .i64 X.oth,.slice aB X.k1.length ad,.slice bB X.k2.length bd,.int .i64 X.ct] _ w10):=iH (by rw [hw];exact S9.out.set 7 _)
    clear f g;clear hw
    have f:=j4 S10.out.rx;have g:=j4 S10.out.ry
    go_wp2_with(go_at_call 83;refine(HEN.out _).mono ?_;rintro e w11 ⟨A12,c12,rfl,hs,hb⟩;have S11:=iH ((S10.out.on hb).add S10.out.lt hs);clear f g;clear hb hs;have f:=j4 S11.out.rx;have g:=j4 S11.out.ry)
    go_meet
    exact⟨⟨X.kd,X.sec,X.pr,X.st+1,X.non,SK,X.g,OW,X.oth,X.k1,X.k2,X.ct⟩,jd OW,SD,sB,nB,aB,bB,A12,B9,sd,nd,ad,bd,c12,d9,rfl,rfl,S11.out.noL,(S11.out.offP 4 rfl),(S11.out.offP 5 rfl),(S11.out.offP 6 rfl),(S11.out.offP 7 rfl),(S11.out.offP 0 rfl),(S11.out.offP 1 rfl),HTG.out,R.out⟩
   have hp2:X.pr=2:=by have:=(qJ hus).2.1;omega
   have tq:(X.pr==2)=true:=by simp [hp2]
   clear hp3
   obtain⟨⟨er,o⟩,hde⟩:∃r,jc val=r:=⟨_,rfl⟩
   by_cases he:er=0
   ·subst he
    obtain⟨⟨er,gi⟩,hg⟩:∃r,qT X.non X.x o=r:=⟨_,rfl⟩
    by_cases he:er=0
    ·subst he
     obtain⟨SD,hSD⟩:∃l,sdW s=l:=⟨_,rfl⟩
     obtain⟨DN,hDN⟩:∃l,jt s 16=l:=⟨_,rfl⟩
     obtain⟨SK,hKK⟩:∃k,jX s=k:=⟨_,rfl⟩
     have DRW:=iH (xL s DN SD hDN hSD HL.out)
     have SEC:=iH (qs s SD SK hKK hSD HL.out)
     have hDL:DN.length=16:=by rw [<-hDN];exact x8 s
     have hKI:0<=SK/\SK<=1073741789:=by rw [<-hKK];exact yS s
     have HDE:=iH hde
     have HGE:=iH hg
     have hge:=Xx hg
     obtain⟨OW,hOW⟩:∃g,jM gi SK=g:=⟨_,rfl⟩
     have hgi:=zy gi SK
     rw [hOW]at hgi
     have hxg:0<=gi/\gi<2147483579:=by have:=jF hge;omega
     have HPW:=iH (K0 gi SK hxg hKI)
     rw [hOW]at HPW
     have HEN:=iH (zB OW hgi)
     have HTG:Hid (128<=127+2*X.st/\127+2*X.st<=134):=iH ⟨by omega,by omega⟩
     have R:Hid (jl X B s=(0,⟨X.kd,X.sec,X.pr,X.st+1,X.non,SK,gi,OW,X.oth,X.k1,X.k2,X.ct⟩,jB (127+2*X.st) (jd OW),SD)):=iH (by unfold jl;rw [iF (by omega),iF (by rw [hus];simp),iF (by omega),hv];simp only [];rw [iF (by omega),iT q,hde];simp only [];rw [hg,iF (by simp),iF (by simp),iT hp2,hKK,hOW,hSD,q]<;>rfl)
     have b1:(X.st==1)=false:=by simp;omega
     have b2:(X.st==2)=true:=by simp;omega
     clear hus hv q hde hg hp2 hge hSD hDN hKK hDL hKI hOW hgi hxg
     go_upto_region 33 with (go_at_call 81;refine(jO val _ _ w7 (S7.out.at 0 rfl)).mono ?_;rw [HDE.out];rintro e w' ⟨rfl,hw⟩;rw [hw];clear hw w')
     clear f g;have f:=j4 S7.out.rx;have g:=j4 S7.out.ry
     go_upto_region 34 with (go_at_call 24;refine(qR X.non _ X.x o w7 (S7.out.lo 7 rfl)).mono ?_;rw [HGE.out];rintro e w' ⟨rfl,hw⟩;rw [hw];clear hw w')
     obtain⟨w8,hw⟩:∃z,z=w7.setCell ⟨gy,6,none⟩ (.int .i64 gi):=⟨_,rfl⟩
     rw [<-hw]
     have S8:Hid (RS w gy _ #[.int .i64 X.kd,.slice sB X.sec.length sd,.int .i64 X.pr,.int .i64 (X.st+1),.slice nB X.non.length nd,.int .i64 X.x,.int .i64 gi,.int .i64 X.own,.int .i64 X.oth,.slice aB X.k1.length ad,.slice bB X.k2.length bd,.int .i64 X.ct] _ w8):=iH (by rw [hw];exact S7.out.set 6 _)
     clear f g;clear hw
     have f:=j4 S8.out.rx;have g:=j4 S8.out.ry
     go_upto_region 37 with (go_at_call 82;refine(SEC.out _ w8 (HK.out.below S8.out.bel HK.out.lt) (S8.out.lo 11 rfl)).mono ?_;rintro e w9 ⟨B9,d9,rfl,h2,hb⟩;have S9:=iH ((S8.out.on hb).add S8.out.lt h2);clear f g;clear hb h2;have f:=j4 S9.out.rx;have g:=j4 S9.out.ry)
     obtain⟨w10,hw⟩:∃z,z=w9.setCell ⟨gy,5,none⟩ (.int .i64 SK):=⟨_,rfl⟩
     rw [<-hw]
     have S10:Hid (RS w gy _ #[.int .i64 X.kd,.slice sB X.sec.length sd,.int .i64 X.pr,.int .i64 (X.st+1),.slice nB X.non.length nd,.int .i64 SK,.int .i64 gi,.int .i64 X.own,.int .i64 X.oth,.slice aB X.k1.length ad,.slice bB X.k2.length bd,.int .i64 X.ct] _ w10):=iH (by rw [hw];exact S9.out.set 5 _)
     clear f g;clear hw
     have f:=j4 S10.out.rx;have g:=j4 S10.out.ry
     go_upto_region 38 with (go_at_call 61;refine(HPW.out _).mono ?_;rintro e w' ⟨rfl,hw⟩;rw [hw];clear hw w')
     obtain⟨w11,hw⟩:∃z,z=w10.setCell ⟨gy,7,none⟩ (.int .i64 OW):=⟨_,rfl⟩
     rw [<-hw]
     have S11:Hid (RS w gy _ #[.int .i64 X.kd,.slice sB X.sec.length sd,.int .i64 X.pr,.int .i64 (X.st+1),.slice nB X.non.length nd,.int .i64 SK,.int .i64 gi,.int .i64 OW,.int .i64 X.oth,.slice aB X.k1.length ad,.slice bB X.k2.length bd,.int .i64 X.ct] _ w11):=iH (by rw [hw];exact S10.out.set 7 _)
     clear f g;clear hw
     have f:=j4 S11.out.rx;have g:=j4 S11.out.ry
     go_wp2_with(go_at_call 83;refine(HEN.out _).mono ?_;rintro e w12 ⟨A12,c12,rfl,hs,hb⟩;have S12:=iH ((S11.out.on hb).add S11.out.lt hs);clear f g;clear hb hs;have f:=j4 S12.out.rx;have g:=j4 S12.out.ry)
     go_meet
     exact⟨⟨X.kd,X.sec,X.pr,X.st+1,X.non,SK,gi,OW,X.oth,X.k1,X.k2,X.ct⟩,jd OW,SD,sB,nB,aB,bB,A12,B9,sd,nd,ad,bd,c12,d9,rfl,rfl,S12.out.noL,(S12.out.offP 4 rfl),(S12.out.offP 5 rfl),(S12.out.offP 6 rfl),(S12.out.offP 7 rfl),(S12.out.offP 0 rfl),(S12.out.offP 1 rfl),HTG.out,R.out⟩
    ·have hne:=he
     have he:=qi he
     have HDE:=iH hde
     have HGE:=iH hg
     have R:Hid (jl X B s=jA er):=iH (by unfold jl;rw [iF (by omega),iF (by rw [hus];simp),iF (by omega),hv];simp only [];rw [iF (by omega),iT q,hde];simp only [];rw [hg,iF (by simp),iT ⟨hp2,hne⟩])
     have b1:(X.st==1)=false:=by simp;omega
     have b2:(X.st==2)=true:=by simp;omega
     clear hus hv q hde hg hne hp2
     go_upto_region 33 with (go_at_call 81;refine(jO val _ _ w7 (S7.out.at 0 rfl)).mono ?_;rw [HDE.out];rintro e w' ⟨rfl,hw⟩;rw [hw];clear hw w')
     clear f g;have f:=j4 S7.out.rx;have g:=j4 S7.out.ry
     go_upto_region 34 with (go_at_call 24;refine(qR X.non _ X.x o w7 (S7.out.lo 7 rfl)).mono ?_;rw [HGE.out];rintro e w' ⟨rfl,hw⟩;rw [hw];clear hw w')
     obtain⟨w8,hw⟩:∃z,z=w7.setCell ⟨gy,6,none⟩ (.int .i64 gi):=⟨_,rfl⟩
     rw [<-hw]
     have S8:Hid (RS w gy _ #[.int .i64 X.kd,.slice sB X.sec.length sd,.int .i64 X.pr,.int .i64 (X.st+1),.slice nB X.non.length nd,.int .i64 X.x,.int .i64 gi,.int .i64 X.own,.int .i64 X.oth,.slice aB X.k1.length ad,.slice bB X.k2.length bd,.int .i64 X.ct] _ w8):=iH (by rw [hw];exact S7.out.set 6 _)
     clear f g;clear hw
     have f:=j4 S8.out.rx;have g:=j4 S8.out.ry
     go_upto_region 35 with fail
     clear f g;have z:=j4 S8.out.rz
     go_wp2_with fail
     have y:=j4 ((PtW.start S8.out.rz).z12).1
     have hbel:=iH (S8.out.bel.trans (Below.mono (((PtW.start S8.out.rz).z12).2.2) (Nat.le_succ _)))
     unfold Go.Proofs.YtalmmiojbmpmiaaGreatDoor.set12 at y hbel
     refine bodyPost_ret (v:=.tuple #[.agg #[.int .i64 0,.slice none 0 0,.int .i64 0,.int .i64 0,.slice none 0 0,.int .i64 0,.int .i64 0,.int .i64 0,.int .i64 0,.slice none 0 0,.slice none 0 0,.int .i64 0],.slice none 0 0,.slice none 0 0,.int .i64 er]) (by simp [results,Tryz.results36,go_sem,y]) rfl ?_
     exact ExO.err R.out hbel.out
   ·have hne:=he
    have he:=qi he
    have HDE:=iH hde
    have R:Hid (jl X B s=jA er):=iH (by unfold jl;rw [iF (by omega),iF (by rw [hus];simp),iF (by omega),hv];simp only [];rw [iF (by omega),iT q,hde];simp only [];rw [iT ⟨hp2,hne⟩])
    have b1:(X.st==1)=false:=by simp;omega
    have b2:(X.st==2)=true:=by simp;omega
    clear hus hv q hde hne hp2
    go_upto_region 32 with (go_at_call 81;refine(jO val _ _ w7 (S7.out.at 0 rfl)).mono ?_;rw [HDE.out];rintro e w' ⟨rfl,hw⟩;rw [hw];clear hw w')
    clear f g;have z:=j4 S7.out.rz
    go_wp2_with fail
    have y:=j4 ((PtW.start S7.out.rz).z12).1
    have hbel:=iH (S7.out.bel.trans (Below.mono (((PtW.start S7.out.rz).z12).2.2) (Nat.le_succ _)))
    unfold Go.Proofs.YtalmmiojbmpmiaaGreatDoor.set12 at y hbel
    refine bodyPost_ret (v:=.tuple #[.agg #[.int .i64 0,.slice none 0 0,.int .i64 0,.int .i64 0,.slice none 0 0,.int .i64 0,.int .i64 0,.int .i64 0,.int .i64 0,.slice none 0 0,.slice none 0 0,.int .i64 0],.slice none 0 0,.slice none 0 0,.int .i64 er]) (by simp [results,Tryz.results36,go_sem,y]) rfl ?_
    exact ExO.err R.out hbel.out
  ·have hus:=HUS.out;have hv:=HV.out
   obtain⟨⟨er,o⟩,hde⟩:∃r,jc val=r:=⟨_,rfl⟩
   by_cases he:er=0
   ·subst he
    by_cases hne:o=X.own
    ·have HDE:=iH hde
     have HNE:=iH hne
     have R:Hid (jl X B s=jA 10):=iH (by unfold jl;rw [iF (by omega),iF (by rw [hus];simp),iF (by omega),hv];simp only [];rw [iF (by omega),iF (by omega),iT q,hde];simp only [];rw [iF (by simp),iT hne])
     have b1:(X.st==1)=false:=by simp;omega
     have b2:(X.st==2)=false:=by simp;omega
     have b3:(X.st==3)=true:=by simp;omega
     clear hus hv q hde hne
     go_upto_region 43 with (go_at_call 81;refine(jO val _ _ w7 (S7.out.at 0 rfl)).mono ?_;rw [HDE.out];rintro e w' ⟨rfl,hw⟩;rw [hw];clear hw w')
     clear f g;have f:=j4 S7.out.rx;have g:=j4 S7.out.ry
     go_upto_region 44 with (go_at_call 84;refine(JQ (Exg.mk (X.kd) (X.sec) (X.pr) (X.st+1) (X.non) (X.x) (X.g) (X.own) (X.oth) (X.k1) (X.k2) (X.ct)) sB nB aB bB sd nd ad bd o HNE.out w7).mono ?_;rintro e w8 ⟨rfl,hb⟩;have S8:=iH (S7.out.on hb);clear f g;clear hb;have f:=j4 S8.out.rx;have g:=j4 S8.out.ry)
     obtain⟨w9,hw⟩:∃z,z=set12 w8 gy (.int .i64 X.kd) (.slice sB X.sec.length sd) (.int .i64 X.pr) (.int .i64 (X.st+1)) (.slice nB X.non.length nd) (.int .i64 X.x) (.int .i64 X.g) (.int .i64 X.own) (.int .i64 X.oth) (.slice aB X.k1.length ad) (.slice bB X.k2.length bd) (.int .i64 X.ct):=⟨_,rfl⟩
     have S9:Hid (RS w gy _ #[.int .i64 X.kd,.slice sB X.sec.length sd,.int .i64 X.pr,.int .i64 (X.st+1),.slice nB X.non.length nd,.int .i64 X.x,.int .i64 X.g,.int .i64 X.own,.int .i64 X.oth,.slice aB X.k1.length ad,.slice bB X.k2.length bd,.int .i64 X.ct] _ w9):=iH (by rw [hw];exact S8.out.fill (.int .i64 X.kd) (.slice sB X.sec.length sd) (.int .i64 X.pr) (.int .i64 (X.st+1)) (.slice nB X.non.length nd) (.int .i64 X.x) (.int .i64 X.g) (.int .i64 X.own) (.int .i64 X.oth) (.slice aB X.k1.length ad) (.slice bB X.k2.length bd) (.int .i64 X.ct))
     unfold Go.Proofs.YtalmmiojbmpmiaaGreatDoor.set12 at hw
     rw [<-hw]
     clear f g;clear hw
     have f:=j4 S9.out.rx;have g:=j4 S9.out.ry
     go_upto_region 45 with fail
     clear f g;have z:=j4 S9.out.rz
     go_wp2_with fail
     have y:=j4 ((PtW.start S9.out.rz).z12).1
     have hbel:=iH (S9.out.bel.trans (Below.mono (((PtW.start S9.out.rz).z12).2.2) (Nat.le_succ _)))
     unfold Go.Proofs.YtalmmiojbmpmiaaGreatDoor.set12 at y hbel
     refine bodyPost_ret (v:=.tuple #[.agg #[.int .i64 0,.slice none 0 0,.int .i64 0,.int .i64 0,.slice none 0 0,.int .i64 0,.int .i64 0,.int .i64 0,.int .i64 0,.slice none 0 0,.slice none 0 0,.int .i64 0],.slice none 0 0,.slice none 0 0,.int .i64 10]) (by simp [results,Tryz.results36,go_sem,y]) rfl ?_
     exact ExO.err R.out hbel.out
    ·have HDE:=iH hde
     have hx:=((qJ hus).2.2.2.1 q).2.2.2
     have hoi:0<=o/\o<2147483579:=by have:=jF (Xr hde);omega
     have hxi:0<=X.x/\X.x<=1073741789:=by have:=yP hx;omega
     obtain⟨KA,hKA⟩:∃l,xG (jd (jM o X.x)) 1=l:=⟨_,rfl⟩
     obtain⟨KB,hKB⟩:∃l,xG (jd (jM o X.x)) 2=l:=⟨_,rfl⟩
     have hkl:KB.length=16:=by rw [<-hKB];exact jG _ _
     have HNE:=iH hne;have HOI:=iH hoi;have HXI:=iH hxi;have HKA:=iH hKA;have HKB:=iH hKB
     obtain⟨T2,hT2⟩:∃T,tkW (Exg.mk (X.kd) (X.sec) (X.pr) (X.st+1) (X.non) (X.x) (X.g) (X.own) (o) (KA) (KB) (0)) o=T:=⟨_,rfl⟩
     have TK2:=iH (fun sA nA aA bA sc nc ac bc W h=>zd (Exg.mk (X.kd) (X.sec) (X.pr) (X.st+1) (X.non) (X.x) (X.g) (X.own) (o) (KA) (KB) (0)) sA nA aA bA sc nc ac bc o hoi hkl W h)
     rw [hT2]at TK2
     have h8:T2.length=8:=by rw [<-hT2];exact tkl _ _ hkl
     have H8:=iH h8
     have HTG:Hid (128<=127+2*X.st/\127+2*X.st<=134):=iH ⟨by omega,by omega⟩
     have R:Hid (jl X B s=(0,⟨X.kd,X.sec,X.pr,X.st+1,X.non,X.x,X.g,X.own,o,KA,KB,0⟩,jB (127+2*X.st) T2,s)):=iH (by unfold jl;rw [iF (by omega),iF (by rw [hus];simp),iF (by omega),hv];simp only [];rw [iF (by omega),iF (by omega),iT q,hde];simp only [];rw [iF (by simp),iF hne];unfold kf;rw [iF hne,<-hT2,<-hKA,<-hKB,q]<;>rfl)
     have b1:(X.st==1)=false:=by simp;omega
     have b2:(X.st==2)=false:=by simp;omega
     have b3:(X.st==3)=true:=by simp;omega
     clear hus hv q hde hne hx hoi hxi hKA hKB hkl hT2 h8
     go_upto_region 43 with (go_at_call 81;refine(jO val _ _ w7 (S7.out.at 0 rfl)).mono ?_;rw [HDE.out];rintro e w' ⟨rfl,hw⟩;rw [hw];clear hw w')
     clear f g;have f:=j4 S7.out.rx;have g:=j4 S7.out.ry
     go_upto_region 44 with (go_at_call 84;refine(YP (Exg.mk (X.kd) (X.sec) (X.pr) (X.st+1) (X.non) (X.x) (X.g) (X.own) (X.oth) (X.k1) (X.k2) (X.ct)) sB nB aB bB sd nd ad bd o HNE.out HOI.out HXI.out KA KB HKA.out HKB.out w7 (HK.out.below S7.out.bel HK.out.lt)).mono ?_;rintro e w8 ⟨aC,bC,ae,be,rfl,m1,m2,hb⟩;have S8:=iH (((S7.out.on hb).add S7.out.lt m2).add S7.out.lt m1);clear f g;clear hb m2 m1;have f:=j4 S8.out.rx;have g:=j4 S8.out.ry)
     obtain⟨w9,hw⟩:∃z,z=set12 w8 gy (.int .i64 X.kd) (.slice sB X.sec.length sd) (.int .i64 X.pr) (.int .i64 (X.st+1)) (.slice nB X.non.length nd) (.int .i64 X.x) (.int .i64 X.g) (.int .i64 X.own) (.int .i64 o) (.slice aC KA.length ae) (.slice bC KB.length be) (.int .i64 0):=⟨_,rfl⟩
     have S9:Hid (RS w gy _ #[.int .i64 X.kd,.slice sB X.sec.length sd,.int .i64 X.pr,.int .i64 (X.st+1),.slice nB X.non.length nd,.int .i64 X.x,.int .i64 X.g,.int .i64 X.own,.int .i64 o,.slice aC KA.length ae,.slice bC KB.length be,.int .i64 0] _ w9):=iH (by rw [hw];exact S8.out.fill (.int .i64 X.kd) (.slice sB X.sec.length sd) (.int .i64 X.pr) (.int .i64 (X.st+1)) (.slice nB X.non.length nd) (.int .i64 X.x) (.int .i64 X.g) (.int .i64 X.own) (.int .i64 o) (.slice aC KA.length ae) (.slice bC KB.length be) (.int .i64 0))
     unfold Go.Proofs.YtalmmiojbmpmiaaGreatDoor.set12 at hw
     rw [<-hw]
     clear f g;clear hw
     have f:=j4 S9.out.rx;have g:=j4 S9.out.ry
     go_wp2_with(go_at_call 85;refine(TK2.out sB nB aC bC sd nd ae be w9 (S9.out.lo 1 rfl)).mono ?_;rintro e w10 ⟨A12,c12,rfl,ht,hb⟩;have T12:=iH ht;clear ht;have S10:=iH (S9.out.on hb);clear f g;clear hb;have f:=j4 S10.out.rx;have g:=j4 S10.out.ry)
     go_meet
     exact⟨⟨X.kd,X.sec,X.pr,X.st+1,X.non,X.x,X.g,X.own,o,KA,KB,0⟩,T2,s,sB,nB,aC,bC,A12,eB,sd,nd,ae,be,c12,ed,by rw [H8.out],rfl,S10.out.noL,(S10.out.offP 4 rfl),(S10.out.offP 5 rfl),(S10.out.offP 0 rfl),(S10.out.offP 1 rfl),by rw [H8.out];exact(BsS.keep (BsS.off T12.out S10.out.rz Zo) fun g hs _=>⟨rfl,hs⟩),(S10.out.offP 3 rfl),HTG.out,R.out⟩
   ·have hne:=he
    have he:=qi he
    have HDE:=iH hde
    have R:Hid (jl X B s=jA er):=iH (by unfold jl;rw [iF (by omega),iF (by rw [hus];simp),iF (by omega),hv];simp only [];rw [iF (by omega),iF (by omega),iT q,hde];simp only [];rw [iT hne])
    have b1:(X.st==1)=false:=by simp;omega
    have b2:(X.st==2)=false:=by simp;omega
    have b3:(X.st==3)=true:=by simp;omega
    clear hus hv q hde hne
    go_upto_region 42 with (go_at_call 81;refine(jO val _ _ w7 (S7.out.at 0 rfl)).mono ?_;rw [HDE.out];rintro e w' ⟨rfl,hw⟩;rw [hw];clear hw w')
    clear f g;have z:=j4 S7.out.rz
    go_wp2_with fail
    have y:=j4 ((PtW.start S7.out.rz).z12).1
    have hbel:=iH (S7.out.bel.trans (Below.mono (((PtW.start S7.out.rz).z12).2.2) (Nat.le_succ _)))
    unfold Go.Proofs.YtalmmiojbmpmiaaGreatDoor.set12 at y hbel
    refine bodyPost_ret (v:=.tuple #[.agg #[.int .i64 0,.slice none 0 0,.int .i64 0,.int .i64 0,.slice none 0 0,.int .i64 0,.int .i64 0,.int .i64 0,.int .i64 0,.slice none 0 0,.slice none 0 0,.int .i64 0],.slice none 0 0,.slice none 0 0,.int .i64 er]) (by simp [results,Tryz.results36,go_sem,y]) rfl ?_
    exact ExO.err R.out hbel.out
  ·have hus:=HUS.out;have hv:=HV.out
   by_cases heq:val=tkW X X.own
   ·obtain⟨T,hT⟩:∃T,tkW X X.own=T:=⟨_,rfl⟩
    have hpa:=(qJ hus).2.2.2.2 q
    have hoi:0<=X.own/\X.own<2147483579:=by have:=jF hpa.1;omega
    have TK:=iH (fun W h=>zd X sA nA aA bA sc nc ac bc X.own hoi hpa.2.2 W h)
    rw [hT]at TK
    have hdc:decide (val=T)=true:=decide_eq_true (by rw [<-hT];exact heq)
    have HDC:=iH hdc
    have R:Hid (jl X B s=(0,⟨X.kd,X.sec,X.pr,X.st+1,X.non,X.x,X.g,X.own,X.oth,X.k1,X.k2,X.ct⟩,[],s)):=iH (by unfold jl;rw [iF (by omega),iF (by rw [hus];simp),iF (by omega),hv];simp only [];rw [iF (by omega),iF (by omega),iF (by omega),iF (fun x=>x heq),q]<;>rfl)
    have b1:(X.st==1)=false:=by simp;omega
    have b2:(X.st==2)=false:=by simp;omega
    have b3:(X.st==3)=false:=by simp;omega
    clear hus hv q heq hpa hoi hT hdc
    go_upto_region 20 with (first|(go_at_call 22;refine(kL _ _ val T _ _ w8 (S8.out.at 0 rfl) T9.out).mono ?_;rw [HDC.out];rintro e w9 ⟨rfl,nr,hw⟩;have hb:Below w8.heap.size w8 w9:=(by rw [hw];exact j3 iB nr);clear hw T9;have S9:=iH (S8.out.on hb);clear f g;clear hb;have f:=j4 S9.out.rx;have g:=j4 S9.out.ry)|(go_at_call 85;refine(TK.out w7 (S7.out.lo 9 rfl)).mono ?_;rintro e w8 ⟨A11,c11,rfl,ht,hb⟩;have T9:=iH ht;clear ht;have S8:=iH (S7.out.on hb);clear f g;clear hb;have f:=j4 S8.out.rx;have g:=j4 S8.out.ry))
    clear f g;have g:=j4 S9.out.ry;have z:=j4 S9.out.rz
    go_wp2_with fail
    have y:=j4 ((PtW.start S9.out.rz).set12 (.int .i64 X.kd) (.slice sB X.sec.length sd) (.int .i64 X.pr) (.int .i64 (X.st+1)) (.slice nB X.non.length nd) (.int .i64 X.x) (.int .i64 X.g) (.int .i64 X.own) (.int .i64 X.oth) (.slice aB X.k1.length ad) (.slice bB X.k2.length bd) (.int .i64 X.ct)).1
    obtain⟨wf,hwf⟩:∃z,z=set12 w9 (w.heap.size+1) (.int .i64 X.kd) (.slice sB X.sec.length sd) (.int .i64 X.pr) (.int .i64 (X.st+1)) (.slice nB X.non.length nd) (.int .i64 X.x) (.int .i64 X.g) (.int .i64 X.own) (.int .i64 X.oth) (.slice aB X.k1.length ad) (.slice bB X.k2.length bd) (.int .i64 X.ct):=⟨_,rfl⟩
    have hbel:Below w.heap.size w wf:=by rw [hwf];exact S9.out.bel.trans (Below.mono (((PtW.start S9.out.rz).set12 (.int .i64 X.kd) (.slice sB X.sec.length sd) (.int .i64 X.pr) (.int .i64 (X.st+1)) (.slice nB X.non.length nd) (.int .i64 X.x) (.int .i64 X.g) (.int .i64 X.own) (.int .i64 X.oth) (.slice aB X.k1.length ad) (.slice bB X.k2.length bd) (.int .i64 X.ct)).2.2) (Nat.le_succ _))
    have hfin:∀ {u:Value} {m:List UInt8},BsS w9 (j9 (w.heap.size+1) w9) u m->Bs wf wf.heap.size u m:=fun {u m} h=>by rw [hwf];exact(BsS.set12 h (.int .i64 X.kd) (.slice sB X.sec.length sd) (.int .i64 X.pr) (.int .i64 (X.st+1)) (.slice nB X.non.length nd) (.int .i64 X.x) (.int .i64 X.g) (.int .i64 X.own) (.int .i64 X.oth) (.slice aB X.k1.length ad) (.slice bB X.k2.length bd) (.int .i64 X.ct)).loB
    unfold Go.Proofs.YtalmmiojbmpmiaaGreatDoor.set12 at y hwf
    refine bodyPost_ret (v:=.tuple #[.agg #[.int .i64 X.kd,.slice sB X.sec.length sd,.int .i64 X.pr,.int .i64 (X.st+1),.slice nB X.non.length nd,.int .i64 X.x,.int .i64 X.g,.int .i64 X.own,.int .i64 X.oth,.slice aB X.k1.length ad,.slice bB X.k2.length bd,.int .i64 X.ct],.slice none 0 0,.slice eB s.length ed,.int .i64 0]) (by simp [results,Tryz.results36,go_sem,y]) rfl ?_
    rw [<-hwf,R.out]
    exact⟨_,_,_,_,_,rfl,⟨_,_,_,_,rfl,hfin (S9.out.offP 2 rfl),hfin (S9.out.offP 3 rfl),hfin (S9.out.offP 4 rfl),hfin (S9.out.offP 5 rfl)⟩,k8 _ _,hfin (S9.out.offP 1 rfl),hbel⟩
   ·have hne:=heq
    clear heq
    obtain⟨T,hT⟩:∃T,tkW X X.own=T:=⟨_,rfl⟩
    have hpa:=(qJ hus).2.2.2.2 q
    have hoi:0<=X.own/\X.own<2147483579:=by have:=jF hpa.1;omega
    have TK:=iH (fun W h=>zd X sA nA aA bA sc nc ac bc X.own hoi hpa.2.2 W h)
    rw [hT]at TK
    have hdc:decide (val=T)=false:=decide_eq_false (by rw [<-hT];exact hne)
    have HDC:=iH hdc
    have R:Hid (jl X B s=jA 21):=iH (by unfold jl;rw [iF (by omega),iF (by rw [hus];simp),iF (by omega),hv];simp only [];rw [iF (by omega),iF (by omega),iF (by omega),iT hne])
    have b1:(X.st==1)=false:=by simp;omega
    have b2:(X.st==2)=false:=by simp;omega
    have b3:(X.st==3)=false:=by simp;omega
    clear hus hv q hne hpa hoi hT hdc
    go_upto_region 19 with (first|(go_at_call 22;refine(kL _ _ val T _ _ w8 (S8.out.at 0 rfl) T9.out).mono ?_;rw [HDC.out];rintro e w9 ⟨rfl,nr,hw⟩;have hb:Below w8.heap.size w8 w9:=(by rw [hw];exact j3 iB nr);clear hw T9;have S9:=iH (S8.out.on hb);clear f g;clear hb;have f:=j4 S9.out.rx;have g:=j4 S9.out.ry)|(go_at_call 85;refine(TK.out w7 (S7.out.lo 9 rfl)).mono ?_;rintro e w8 ⟨A11,c11,rfl,ht,hb⟩;have T9:=iH ht;clear ht;have S8:=iH (S7.out.on hb);clear f g;clear hb;have f:=j4 S8.out.rx;have g:=j4 S8.out.ry))
    clear f g;have z:=j4 S9.out.rz
    go_wp2_with fail
    have y:=j4 ((PtW.start S9.out.rz).z12).1
    have hbel:=iH (S9.out.bel.trans (Below.mono (((PtW.start S9.out.rz).z12).2.2) (Nat.le_succ _)))
    unfold Go.Proofs.YtalmmiojbmpmiaaGreatDoor.set12 at y hbel
    refine bodyPost_ret (v:=.tuple #[.agg #[.int .i64 0,.slice none 0 0,.int .i64 0,.int .i64 0,.slice none 0 0,.int .i64 0,.int .i64 0,.int .i64 0,.int .i64 0,.slice none 0 0,.slice none 0 0,.int .i64 0],.slice none 0 0,.slice none 0 0,.int .i64 21]) (by simp [results,Tryz.results36,go_sem,y]) rfl ?_
    exact ExO.err R.out hbel.out
 case rest=>
  obtain⟨Y,DT,NX,sE,nE,aE,bE,dE,eE,se,ne,ae,be,de,ee,rfl,rfl,hS,h1,h2,h3,h4,h5,h6,htg,hR⟩:=hcut
  obtain⟨wk0,hw⟩:∃z,z=wc:=⟨_,rfl⟩
  rw [<-hw]at hS h1 h2 h3 h4 h5 h6 |-
  obtain⟨U,hU⟩:∃U,jB (127+2*X.st) DT=U:=⟨_,rfl⟩
  rw [hU]at hR
  have HWR:Hid (∀(A:Option Addr) (c:Nat) (W:World),Bs W W.heap.size (.slice A DT.length c) DT->Calls Tryz.prog 86 #[.int .i64 (127+2*X.st),.slice A DT.length c] W (Q6 U W)):=iH (by rw [<-hU];exact fun A c W h=>U4 (127+2*X.st) htg A c DT W h)
  have S99:=iH hS;have L0:=iH h1;have L1:=iH h2;have L2:=iH h3;have L3:=iH h4;have D9:=iH h5;have N9:=iH h6;have R:=iH hR
  clear hw hU hS h1 h2 h3 h4 h5 h6 htg hR
  go_upto_region 47 with fail
  refine ja 12 [some 184,some 185,some 186,some 187,some 188,some 189,some 190,some 191,none,some 7,some 8,some 9] [[],[],[1],[1,2],[1,2,3],[],[1,2,3,4,5],[],[0,1,2,3,4,5,6],[0,1,2,3,4,5,6,8],[0,1,2,3,4,5,6,7,8,9],[0,1,2,3,4,5,6,7,8,9,10]]
   (fun _ _ w1=>PtA (w.heap.size+1) wk0 w1) (fun w1 w2=>RO (w.heap.size+1) #[.int .i64 Y.kd,.slice sE Y.sec.length se,.int .i64 Y.pr,.int .i64 Y.st,.slice nE Y.non.length ne,.int .i64 Y.x,.int .i64 Y.g,.int .i64 Y.own,.int .i64 Y.oth,.slice aE Y.k1.length ae,.slice bE Y.k2.length be,.int .i64 Y.ct] w1 w2)
   [.v (.agg #[.int .i64 Y.kd,.slice sE Y.sec.length se,.int .i64 Y.pr,.int .i64 Y.st,.slice nE Y.non.length ne,.int .i64 Y.x,.int .i64 Y.g,.int .i64 Y.own,.int .i64 Y.oth,.slice aE Y.k1.length ae,.slice bE Y.k2.length be,.int .i64 Y.ct]),
    .v (.pointer (some ⟨w.heap.size,3,none⟩)),
    .v (.int .i64 X.st),
    .v (.int .i64 (2*X.st)),
    .v (.int .i64 (127+2*X.st)),
    .v (.slice dE DT.length de),
    .p (fun v w1=>∃A c,v 6=.slice A U.length c/\BsS w1 (j9 (w.heap.size+1) w1) (.slice A U.length c) U) (fun _ _ _ _ _ hr ⟨A,c,h1,h2⟩=>⟨A,c,h1,h2.grownP hr.1⟩),
    .v (.slice eE NX.length ee),
    .p (fun v w1=>w1.heap[w.heap.size+1]?=some (.cells (exX Y sE nE aE bE se ne ae be) 48 (0,0))) (fun _ _ _ _ _ hr h=>hr.2 h),
    .q fun v=>∃A c,v 6=.slice A U.length c/\v 9=.slice A U.length c,
    .v (.slice eE NX.length ee),
    .v (.int .i64 0)]
   (by kernel_rfl) (by kernel_rfl) rfl (fun _=>⟨_,_,_,_,_,_,_,_,_,_,_,_,(PtW.start S99.out.rz).drew⟩) ?steps ?tail
  case steps=>
   simp only [List.take_succ_cons,List.take_zero]
   repeat' (with_reducible first|exact StepsRG.nil|refine StepsRG.cons ?_ ?_)
   all_goals(intro L v w1 hJ hL hF hD K hK;simp only [jb,Act.put,Nat.zero_add,Nat.reduceAdd,List.setIfInBounds_toArray,List.set_cons_zero,List.set_cons_succ,↓jZ,List.getD_cons_zero,List.getD_cons_succ,Nat.reduceEqDiff,↓reduceIte]at hD hK |-)
   all_goals try(have q:=j4 ((hJ.gr.block _ S99.out.lt (by intro e;injection e with e;have:=S99.out.gy2;omega)).trans S99.out.ry);have q1x:=j4 ((hJ.gr.block _ (lt_of_block S99.out.rx) (by intro e;injection e with e;omega)).trans S99.out.rx);(try simp only [hD]at hK |-);go_simp;refine hK _ _ hJ ⟨World.grownBy.refl _ _,id⟩ ?_;first|exact rfl|exact jh _|exact Ua (by have:=HST.out;omega))
   ·simp only [hD]at hK |-
    go_simp
    refine(HWR.out _ _ w1 (D9.out.grownP hJ.gr).loB).mono ?_
    rintro e wk ⟨A3,c3,rfl,hs,hb⟩
    refine hK _ _ (hJ.call hb) ⟨qH hb,fun h=>(hb.block _ hJ.lt).trans h⟩ ⟨_,_,rfl,?_⟩
    exact hs.madeB hJ.lt
   ·simp only [hD]at hK |-
    obtain⟨a0,a1,a2,a3,a4,a5,a6,a7,a8,a9,a10,a11,hp⟩:=hJ
    have q:=j4 hp.1
    have HJq:=iH hp
    clear hp hL hF
    go_simp
    exact hK undef _ ⟨_,_,_,_,_,_,_,_,_,_,_,_,HJq.out.s12⟩ ⟨((PtW.start HJq.out.1).s12).2.1,fun _=>((PtW.start HJq.out.1).s12).1⟩ ((PtW.start HJq.out.1).s12).1
   ·simp only [hD]at hK |-
    obtain⟨A,c,e6,_⟩:∃A c,v 6=_/\_:=hF 6 (by simp)
    simp only [e6]at hK |-
    go_simp
    exact hK _ _ hJ ⟨World.grownBy.refl _ _,id⟩ ⟨A,c,e6,rfl⟩
  case tail=>
   intro v w1 hJ hF hD
   simp only [kE]at hD
   obtain⟨e0,e1,e2,e3,e4,e5,e7,e10,e11, -⟩:=hD
   simp only [List.drop_succ_cons,List.drop_zero,jb,Act.put,Nat.zero_add,Nat.reduceAdd,List.setIfInBounds_toArray,List.set_cons_zero,List.set_cons_succ]
   obtain⟨A7,c7,e6,hu⟩:∃A c,v 6=_/\_:=hF 6 (by simp)
   obtain⟨A8x,c8x,e6b,e9⟩:∃A c,v 6=_/\v 9=_:=hF 9 (by simp)
   obtain⟨rfl,_,rfl⟩:=Value.slice.inj (e6.symm.trans e6b)
   have h8:w1.heap[w.heap.size+1]?=some (.cells (exX Y sE nE aE bE se ne ae be) 48 (0,0)):=hF 8 (by simp)
   simp only [e0,e1,e2,e3,e4,e5,e6,e7,e9,e10,e11]
   have HP7:=iH hJ;have HU:=iH hu
   have y:=j4 h8
   clear hJ hF hu h8 e0 e1 e2 e3 e4 e5 e6 e6b e7 e9 e10 e11
   go_wp2_with fail
   refine bodyPost_ret (v:=.tuple #[.agg #[.int .i64 Y.kd,.slice sE Y.sec.length se,.int .i64 Y.pr,.int .i64 Y.st,.slice nE Y.non.length ne,.int .i64 Y.x,.int .i64 Y.g,.int .i64 Y.own,.int .i64 Y.oth,.slice aE Y.k1.length ae,.slice bE Y.k2.length be,.int .i64 Y.ct],.slice A7 U.length c7,.slice eE NX.length ee,.int .i64 0]) (by simp [results,Tryz.results36,go_sem,y]) rfl ?_
   have hfin:∀ {u:Value} {m:List UInt8},BsS wk0 (j9 (w.heap.size+1) wk0) u m->Bs w1 w1.heap.size u m:=fun {u m} h=>(h.grownP HP7.out.gr).loB
   have hbel:Below w.heap.size w w1:=S99.out.bel.trans (HP7.out.bel.mono (Nat.le_succ _))
   rw [R.out]
   exact⟨_,_,_,_,_,rfl,⟨_,_,_,_,rfl,hfin L0.out,hfin L1.out,hfin L2.out,hfin L3.out⟩,HU.out.loB,hfin N9.out,hbel⟩
theorem j0t:Calls Tryz.prog 36 #[.agg #[.int .i64 X.kd,.slice sA X.sec.length sc,.int .i64 X.pr,.int .i64 X.st,.slice nA X.non.length nc,.int .i64 X.x,.int .i64 X.g,.int .i64 X.own,.int .i64 X.oth,.slice aA X.k1.length ac,.slice bA X.k2.length bc,.int .i64 X.ct],.slice vA B.length vc,.slice eA s.length ec] w (ExO (jl X B s) w):=by
 by_cases hst:X.st<0\/4<X.st
 ·exact Y4 X sA nA aA bA sc nc ac bc vA eA vc ec B s w hK h1 h2 h3 h4 h5 h6 ls ln l1 l2 hl hst
 have hst:0<=X.st/\X.st<=4:=by omega
 rcases hus:usT X with _|_
 ·exact QQ X sA nA aA bA sc nc ac bc vA eA vc ec B s w hK h1 h2 h3 h4 h5 h6 ls ln l1 l2 hl hst hus
 exact j3g X sA nA aA bA sc nc ac bc vA eA vc ec B s w hK h1 h2 h3 h4 h5 h6 ls ln l1 l2 hl hst hus
end
section
section
variable {P:Program} (w:World)
end
section
variable {P:Program} {Q:Exit->Act->World->Prop}
end
section
variable {J:(Nat->Bool)->(Nat->Value)->World->Prop} {R:World->World->Prop}
end
section
variable {P:Program} {Q:Exit->Act->World->Prop}
end
section
variable {P:Program} (w:World)
end
section
open Go.RowKit Go.Shelf
attribute [local go_sem] Oper.semAt_some
end
section
open Go.RowKit Go.Shelf
attribute [local go_sem] Oper.semAt_some
end
section
open Go.RowKit Go.Shelf
attribute [local go_sem] Oper.semAt_some
end
section
open Go.RowKit Go.Shelf
attribute [local go_sem] Oper.semAt_some
end
section
open Go.RowKit Go.Shelf
attribute [local go_sem] Oper.semAt_some
end
section
variable (k iv b:List UInt8)
end
instance (b:List UInt8):Decidable (kF b):=by unfold kF;infer_instance
section
variable {st:Bool} {n:Nat} {l:List UInt8} {d c:Nat} {t:Int} {k:Nat} (ht:qj l=.ok (t,k))
include ht
variable {m:Int} {j:Nat} (hs:jz (l.drop k) (kr t&& !st) st=.ok (m,j))
include hs
variable (h:¬8<d) (h2:¬256<c+1) (h3:¬((l.drop (k+j)).length:Int)<m)
include h h2 h3
end
section
variable {P:Nat} {w W W':World} {row:Array Value} {u:Value} {l:List UInt8}
end
section
variable {P:Nat} {w W:World} {a' b' c' d' e' f' g' h' i' j' k' l':Value}
end
def ExA(w:World)(v:Value)(X:Exg):Prop:=ExL w (·<w.heap.size) v X/\X.sec.length<=140737488351232/\X.non.length<=140737488351232/\X.k1.length<=140737488351232/\X.k2.length<=140737488351232
structure VRQ9 (w wx:World) (Rs:List (Nat×Array Value)) (L:List (Value×List UInt8)):Prop where
 bel:Below w.heap.size w wx
 rows:∀r∈Rs,wx.heap[r.1]?=some (.cells r.2 48 (0,0))
 all:∀x∈L,Bs wx wx.heap.size x.1 x.2
section
variable {w wx wy:World} {Rs:List (Nat×Array Value)} {L:List (Value×List UInt8)} {v:Value} {l:List UInt8}
section
variable(h:VRQ9 w wx Rs L)
include h
theorem VRQ9.on(hb:Below wx.heap.size wx wy):VRQ9 w wy Rs L:=
 ⟨h.bel.trans (hb.mono h.bel.size),fun r hr=>(hb.block _ (lt_of_block (h.rows r hr))).trans (h.rows r hr),fun x hx=>Bs.lift (h.all x hx) hb⟩
theorem VRQ9.add(hv:Bs wx wx.heap.size v l):VRQ9 w wx Rs ((v,l) :: L):=
 ⟨h.bel,h.rows,fun x hx=>by
  rcases List.mem_cons.1 hx with rfl|hx
  ·exact hv
  ·exact h.all x hx⟩
theorem VRQ9.row(row:Array Value):VRQ9 w (wx.alloc (.cells row 48)) ((wx.heap.size,row) :: Rs) L:=by
 have h':=h.on (jo wx (.cells row 48))
 exact⟨h'.bel,fun r hr=>by
  rcases List.mem_cons.1 hr with rfl|hr
  ·exact iN
  ·exact h'.rows r hr,h'.all⟩
theorem VRQ9.at(i:Nat)(hi:L[i]?=some (v,l)):Bs wx wx.heap.size v l:=h.all (v,l) (List.mem_of_getElem? hi)
end
theorem VRQ9.rw{g:Nat}{row:Array Value}(h:VRQ9 w wx Rs L)(i:Nat)(hi:Rs[i]?=some (g,row)):wx.heap[g]?=some (.cells row 48 (0,0)):=h.rows (g,row) (List.mem_of_getElem? hi)
end
end
section
section
open Go.ChangeShapes Go.WideShapes Go.ChangeAt Go.RowKit Go.Deep
theorem open_bytes_at{H:Type}{enc:TypeId×Value->H}{P:Program}{t e:TypeId}(ht:P.underlying t=some (.slice e))(he:P.underlying e=some (.int .u8))(hc:P.cellsOf e=1){W:World}{base:Nat}{spare:Nat->Bool}{held:Bool}{fuel:Nat}{v:Value}{x:DataW H×List MemPlace}(hf:DataW.trod enc P W base spare held fuel t [v]=some x)(hz0:∀elems sp,x.1=.slice elems sp->elems.length<=140737488351232):∃l:List UInt8,Bs W W.heap.size v l:=by
 rcases open_ints ht he hc hf with ⟨hcs,_⟩|⟨x,n,c,zs,hcs,_,hl,hm,hz,hx,hcell,hwz⟩
 ·injection hcs with hcs _
  subst hcs
  exact⟨[],Bs.nil W _⟩
 ·injection hcs with hcs _
  subst hcs
  have hn:n<=zs.length:=by rw [hz];split<;>omega
  have hw:=hz0 _ _ (by rw [hx])
  rw [YG]at hw
  simp only [List.length_take]at hw
  have hll:((zs.take n).map ofI).length=n:=by simp;omega
  refine⟨(zs.take n).map ofI,⟨some x,c,by rw [hll],by omega,by unfold maxLen at hm;omega,by rw [hll];omega,fun h0=> ?_⟩⟩
  rw [hll]at h0
  obtain⟨b,off,spot⟩:=x
  have h1:=hcell 0 (by omega)
  have hspot:spot=none:=by simpa [Addr.add]using World.cell?_spot h1
  subst hspot
  have e0:(⟨b,off,none⟩:Addr).add 0=⟨b,off,none⟩:=by unfold Addr.add;simp
  rw [e0]at h1
  refine⟨b,off,rfl,block_lt_of_cell h1,fun j hj=> ?_⟩
  rw [hll]at hj
  have h2:=hcell j (by omega)
  have e1:(⟨b,off,none⟩:Addr).add j=⟨b,off+j,none⟩:=by unfold Addr.add;split<;>simp_all
  rw [e1]at h2
  rw [h2]
  have hz2:j<zs.length:=by omega
  have hr:=j7m (hwz _ (List.getElem_mem hz2))
  have e2:gb ((zs.take n).map ofI) j=ofI zs[j]:=by
   simp [gb,hj,hz2]
  rw [e2]
  show some (Value.int .u8 _)=some (Value.int .u8 (bv (ofI zs[j])))
  rw [yV hr.1 hr.2]
  simp [hz2]
end
section
open Go.ChangeShapes Go.WideShapes Go.ChangeAt Go.RowKit Go.Deep
section
variable {H:Type} {enc:TypeId×Value->H} {W:World} {base base2:Nat} {spare:Nat->Bool} {held:Bool}
theorem two_ofM{α:Type}:∀(l:List α),l.length=2->∃a b,l= [a,b]
 |[a,b],_=>⟨a,b,rfl⟩
theorem three_ofM{α:Type}:∀(l:List α),l.length=3->∃a b c,l= [a,b,c]
 |[a,b,c],_=>⟨a,b,c,rfl⟩
theorem cells_bytesM:Tryz.prog.cellsOf 22=1:=by kernel_rfl
theorem cells_intM:Tryz.prog.cellsOf 3=1:=by kernel_rfl
theorem cells_sessM:Tryz.prog.cellsOf 46=3:=by kernel_rfl
theorem part_short{t:TypeId}{fs:Array Field}(hu:Tryz.prog.underlying t=some (.struct fs)){xs:List (DataW H)}{ts:List TypeId}{ds:List (DataW H)}(hsz:(DataW.weightsEach Tryz.prog ts ds).all (·<=reachBytes)=true){j:Nat}(htj:ts[j]?=some t)(hdj:ds[j]?=some (.agg xs)){i:Nat}(hf:(fs.toList.map (·.type))[i]?=some 22){d:DataW H}(hd:xs[i]?=some d):∀elems sp,d=.slice elems sp->elems.length<=140737488351232:=by
 intro elems sp he
 have e1:Tryz.prog.bytesOf 5=1:=by kernel_rfl
 have h:=List.all_eq_true.1 hsz ((elems.length+sp.length)*Tryz.prog.bytesOf 5) (DataW.weights_mem_each htj hdj _ (by
  simp only [DataW.weights,hu]
  refine DataW.weights_mem_each hf hd _ ?_
  rw [he]
  simp [DataW.weights,Tryz.underlying22]))
 rw [e1]at h
 have h':=of_decide_eq_true h
 simp only [reachBytes]at h'
 omega
section
variable{n:Nat}{c:Value}{x:DataW H×List MemPlace}
include n c x
theorem bytes_part(h:DataW.trod enc Tryz.prog W base spare held n 22 [c]=some x)(hz:∀elems sp,x.1=.slice elems sp->elems.length<=140737488351232):∃l,BsS W (·<W.heap.size) c l:=
 open_bytes_at Tryz.underlying22 Tryz.underlying5 (by kernel_rfl) h hz
theorem int_part(h:DataW.trod enc Tryz.prog W base spare held n 3 [c]=some x):∃t,c=.int .i64 t/\(Lit.int .i64 t).wf=true:=by
 obtain⟨t,hc0,_,htw⟩:=DataW.trod_int Tryz.underlying3 h
 injection hc0 with hc0 _
 exact⟨t,hc0,htw⟩
end
theorem agg_part{fs:Array Field}{t:TypeId}(hu:Tryz.prog.underlying t=some (.struct fs)){v:Value}(hv:Value.okWide Tryz.prog W .any base2 t v):∃l:List Value,v=.agg ⟨l⟩/\l.length=Tryz.prog.cellsOf t:=by
 obtain⟨cs,rfl,hc⟩:=okWide_struct hu hv
 exact⟨cs.toList,rfl,by simpa using hc⟩
end
end
section
open Go.ChangeShapes Go.WideShapes Go.ChangeAt Go.RowKit Go.Deep
section
variable {H:Type} {enc:TypeId×Value->H} {W:World} {base base2:Nat} {spare:Nat->Bool} {held:Bool}
theorem cells_pwM:Tryz.prog.cellsOf 24=2:=by kernel_rfl
theorem cells_exM:Tryz.prog.cellsOf 48=12:=by kernel_rfl
theorem nine_of{α:Type}:∀(l:List α),l.length=9->∃a b c d e f g h i,l= [a,b,c,d,e,f,g,h,i]
 |[a,b,c,d,e,f,g,h,i],_=>⟨a,b,c,d,e,f,g,h,i,rfl⟩
theorem twelve_of{α:Type}:∀(l:List α),l.length=12->∃a b c d e f g h i j k m,l= [a,b,c,d,e,f,g,h,i,j,k,m]
 |[a,b,c,d,e,f,g,h,i,j,k,m],_=>⟨a,b,c,d,e,f,g,h,i,j,k,m,rfl⟩
def PartShort(d:DataW H):Prop:=∀elems sp,d=.slice elems sp->elems.length<=140737488351232
theorem bytes_part2{n:Nat}{c:Value}{x:DataW H×List MemPlace}(h:DataW.trod enc Tryz.prog W base spare held n 22 [c]=some x)(hz:PartShort x.1):∃l,BsS W (·<W.heap.size) c l/\l.length<=140737488351232:=by
 obtain⟨l,hl⟩:=bytes_part h hz
 refine⟨l,hl,?_⟩
 rcases open_ints Tryz.underlying22 Tryz.underlying5 (by kernel_rfl) h with ⟨hcs,_⟩|⟨y,n',c',zs,hcs,_,hl2,hm,hz2,hx,hcell,hwz⟩
 ·injection hcs with hcs _
  subst hcs
  have e:=Bs.lenEq hl
  omega
 ·injection hcs with hcs _
  subst hcs
  have e:=Bs.lenEq hl
  have hn:n'<=zs.length:=by rw [hz2];split<;>omega
  have hw:=hz _ _ (by rw [hx])
  rw [YG]at hw
  simp only [List.length_take]at hw
  omega
theorem open_pw_at{n:Nat}{c0 c1:Value}{x:DataW H×List MemPlace}(hf:DataW.trod enc Tryz.prog W base spare held n 24 [c0,c1]=some x)(hz:∀a b,x.1=.agg [a,b]->PartShort b):
 ∃kd sec,c0=.int .i64 kd/\Bs W W.heap.size c1 sec/\sec.length<=140737488351232:=by
 obtain⟨xs,m,_,hx,_,hxl,hfs⟩:=DataW.trod_struct Tryz.underlying24 hf
 have hxl:xs.length=2:=hxl
 obtain⟨x0,x1,rfl⟩:=two_ofM xs hxl
 have g0:DataW.trod enc Tryz.prog W base spare held m 3 (([c0,c1].drop 0).take (Tryz.prog.cellsOf 3))=some x0:=hfs 0 _ rfl
 have g1:DataW.trod enc Tryz.prog W base spare held m 22 (([c0,c1].drop 1).take (Tryz.prog.cellsOf 22))=some x1:=hfs 1 _ rfl
 rw [cells_intM]at g0
 rw [cells_bytesM]at g1
 have hd:x.1=.agg [x0.1,x1.1]:=by rw [hx]<;>rfl
 obtain⟨k,h1,h2⟩:=bytes_part2 g1 (hz _ _ hd)
 obtain⟨t,rfl,_⟩:=int_part g0
 exact⟨t,k,rfl,h1,h2⟩
end
end
section
open Go.ChangeShapes Go.WideShapes Go.ChangeAt Go.RowKit Go.Deep
section
variable {H:Type} {enc:TypeId×Value->H} {W:World} {base base2:Nat} {spare:Nat->Bool} {held:Bool}
theorem open_sess_at{n:Nat}{c0 c1 c2:Value}{x:DataW H×List MemPlace}(hf:DataW.trod enc Tryz.prog W base spare held n 46 [c0,c1,c2]=some x)(hz:∀a b c,x.1=.agg [a,b,c]->PartShort a/\PartShort b):
 ∃k1 k2 z,c2=.int .i64 z/\Bs W W.heap.size c0 k1/\Bs W W.heap.size c1 k2/\k1.length<=140737488351232/\k2.length<=140737488351232:=by
 obtain⟨xs,m,_,hx,_,hxl,hfs⟩:=DataW.trod_struct Tryz.underlying46 hf
 have hxl:xs.length=3:=hxl
 obtain⟨x0,x1,x2,rfl⟩:=three_ofM xs hxl
 have g0:DataW.trod enc Tryz.prog W base spare held m 22 (([c0,c1,c2].drop 0).take (Tryz.prog.cellsOf 22))=some x0:=hfs 0 _ rfl
 have g1:DataW.trod enc Tryz.prog W base spare held m 22 (([c0,c1,c2].drop 1).take (Tryz.prog.cellsOf 22))=some x1:=hfs 1 _ rfl
 have g2:DataW.trod enc Tryz.prog W base spare held m 3 (([c0,c1,c2].drop 2).take (Tryz.prog.cellsOf 3))=some x2:=hfs 2 _ rfl
 rw [cells_bytesM]at g0 g1
 rw [cells_intM]at g2
 have hd:x.1=.agg [x0.1,x1.1,x2.1]:=by rw [hx]<;>rfl
 obtain⟨k1,h1,l1⟩:=bytes_part2 g0 (hz _ _ _ hd).1
 obtain⟨k2,h2,l2⟩:=bytes_part2 g1 (hz _ _ _ hd).2
 obtain⟨z,rfl,_⟩:=int_part g2
 exact⟨k1,k2,z,rfl,h1,h2,l1,l2⟩
theorem part_short2{t u:TypeId}{fs gs:Array Field}(hu:Tryz.prog.underlying t=some (.struct fs))(hg:Tryz.prog.underlying u=some (.struct gs)){xs ys:List (DataW H)}{ts:List TypeId}{ds:List (DataW H)}(hsz:(DataW.weightsEach Tryz.prog ts ds).all (·<=reachBytes)=true){j:Nat}(htj:ts[j]?=some t)(hdj:ds[j]?=some (.agg xs)){i:Nat}(hf:(fs.toList.map (·.type))[i]?=some u)(hd:xs[i]?=some (.agg ys)){k:Nat}(hk:(gs.toList.map (·.type))[k]?=some 22){d:DataW H}(hy:ys[k]?=some d):PartShort d:=by
 intro elems sp he
 have e1:Tryz.prog.bytesOf 5=1:=by kernel_rfl
 have h:=List.all_eq_true.1 hsz ((elems.length+sp.length)*Tryz.prog.bytesOf 5) (DataW.weights_mem_each htj hdj _ (by
  simp only [DataW.weights,hu]
  refine DataW.weights_mem_each hf hd _ ?_
  simp only [DataW.weights,hg]
  refine DataW.weights_mem_each hk hy _ ?_
  rw [he]
  simp [DataW.weights,Tryz.underlying22]))
 rw [e1]at h
 have h':=of_decide_eq_true h
 simp only [reachBytes]at h'
 omega
theorem open_exchange{v:Value}{d:DataW H}{ps:List MemPlace}(hv:Value.okWide Tryz.prog W .any base2 48 v)(h:DataW.Trod enc Tryz.prog W base spare held 48 v d ps){ts:List TypeId}{ds:List (DataW H)}(hsz:(DataW.weightsEach Tryz.prog ts ds).all (·<=reachBytes)=true){j:Nat}(htj:ts[j]?=some 48)(hdj:ds[j]?=some d):
 ∃X,ExA W v X:=by
 obtain⟨l,rfl,hl⟩:=agg_part Tryz.underlying48 hv
 rw [cells_exM]at hl
 obtain⟨c0,c1,c2,c3,c4,c5,c6,c7,c8,c9,c10,c11,rfl⟩:=twelve_of l hl
 obtain⟨fuel,hf⟩:=h
 obtain⟨xs,n,_,hx,_,hxl,hfs⟩:=DataW.trod_struct Tryz.underlying48 hf
 have hxl:xs.length=9:=hxl
 obtain⟨x0,x1,x2,x3,x4,x5,x6Q9,x7,x8Q9,rfl⟩:=nine_of xs hxl
 have g0:DataW.trod enc Tryz.prog W base spare held n 24 (([c0,c1,c2,c3,c4,c5,c6,c7,c8,c9,c10,c11].drop 0).take (Tryz.prog.cellsOf 24))=some x0:=hfs 0 _ rfl
 rw [cells_pwM]at g0
 have g1:DataW.trod enc Tryz.prog W base spare held n 3 (([c0,c1,c2,c3,c4,c5,c6,c7,c8,c9,c10,c11].drop 2).take (Tryz.prog.cellsOf 3))=some x1:=hfs 1 _ rfl
 rw [cells_intM]at g1
 have g2:DataW.trod enc Tryz.prog W base spare held n 3 (([c0,c1,c2,c3,c4,c5,c6,c7,c8,c9,c10,c11].drop 3).take (Tryz.prog.cellsOf 3))=some x2:=hfs 2 _ rfl
 rw [cells_intM]at g2
 have g3:DataW.trod enc Tryz.prog W base spare held n 22 (([c0,c1,c2,c3,c4,c5,c6,c7,c8,c9,c10,c11].drop 4).take (Tryz.prog.cellsOf 22))=some x3:=hfs 3 _ rfl
 rw [cells_bytesM]at g3
 have g4:DataW.trod enc Tryz.prog W base spare held n 3 (([c0,c1,c2,c3,c4,c5,c6,c7,c8,c9,c10,c11].drop 5).take (Tryz.prog.cellsOf 3))=some x4:=hfs 4 _ rfl
 rw [cells_intM]at g4
 have g5:DataW.trod enc Tryz.prog W base spare held n 3 (([c0,c1,c2,c3,c4,c5,c6,c7,c8,c9,c10,c11].drop 6).take (Tryz.prog.cellsOf 3))=some x5:=hfs 5 _ rfl
 rw [cells_intM]at g5
 have g6:DataW.trod enc Tryz.prog W base spare held n 3 (([c0,c1,c2,c3,c4,c5,c6,c7,c8,c9,c10,c11].drop 7).take (Tryz.prog.cellsOf 3))=some x6Q9:=hfs 6 _ rfl
 rw [cells_intM]at g6
 have g7:DataW.trod enc Tryz.prog W base spare held n 3 (([c0,c1,c2,c3,c4,c5,c6,c7,c8,c9,c10,c11].drop 8).take (Tryz.prog.cellsOf 3))=some x7:=hfs 7 _ rfl
 rw [cells_intM]at g7
 have g8:DataW.trod enc Tryz.prog W base spare held n 46 (([c0,c1,c2,c3,c4,c5,c6,c7,c8,c9,c10,c11].drop 9).take (Tryz.prog.cellsOf 46))=some x8Q9:=hfs 8 _ rfl
 rw [cells_sessM]at g8
 simp only [Prod.mk.injEq]at hx
 have hd:d=.agg [x0.1,x1.1,x2.1,x3.1,x4.1,x5.1,x6Q9.1,x7.1,x8Q9.1]:=hx.1
 rw [hd]at hdj
 obtain⟨kd,sec,rfl,p1,q1⟩:=open_pw_at g0 (fun a b e=>part_short2 Tryz.underlying48 Tryz.underlying24 hsz htj hdj (i:=0) rfl (by rw [<-e]<;>rfl) (k:=1) rfl rfl)
 obtain⟨pr,rfl,_⟩:=int_part g1
 obtain⟨st,rfl,_⟩:=int_part g2
 obtain⟨non,p2,q2⟩:=bytes_part2 g3 (part_short Tryz.underlying48 hsz htj hdj (i:=3) rfl rfl)
 obtain⟨x,rfl,_⟩:=int_part g4
 obtain⟨g,rfl,_⟩:=int_part g5
 obtain⟨own,rfl,_⟩:=int_part g6
 obtain⟨oth,rfl,_⟩:=int_part g7
 obtain⟨k1,k2,z,rfl,p3,p4,q3,q4⟩:=open_sess_at g8 (fun a b c e=>⟨part_short2 Tryz.underlying48 Tryz.underlying46 hsz htj hdj (i:=8) rfl (by rw [<-e]<;>rfl) (k:=0) rfl rfl,part_short2 Tryz.underlying48 Tryz.underlying46 hsz htj hdj (i:=8) rfl (by rw [<-e]<;>rfl) (k:=1) rfl rfl⟩)
 exact⟨⟨kd,sec,pr,st,non,x,g,own,oth,k1,k2,z⟩,⟨_,_,_,_,rfl,p1,p2,p3,p4⟩,q1,q2,q3,q4⟩
end
end
end
section
section
variable {kd m:Int} {sec:List UInt8}
section
variable (hp:vPw kd sec=true) (hm:m=2\/m=3)
include hp hm
end
end
section
variable {w W W' wz:World} {gy:Nat} {xr yr:Array Value} {L:List (Value×List UInt8)} {v:Value} {l:List UInt8}
end
theorem passwordSteps_law(vx:Value)(X:Exg)(vb:Value)(B:List UInt8)(_nb:B.length<=140737488351232)(vs:Value)(s:List UInt8)(ns:s.length<=140737488351232)(w:World)(hK:KR w/\KD w)(hx:ExA w vx X)(hb:Bs w w.heap.size vb B)(hs:Bs w w.heap.size vs s):
 Calls Tryz.prog 6 #[vx,vb,vs] w fun e w'=>e=.returned (.bool true)/\Below w.heap.size w w':=by
 obtain⟨⟨u1,u2,u3,u4,rfl,x1,x2,x3,x4⟩,l1,l2,l3,l4⟩:=hx
 obtain⟨s0,sc0,rfl⟩:=Bs.formL x1
 obtain⟨n0,nc0,rfl⟩:=Bs.formL x2
 obtain⟨a0,ac0,rfl⟩:=Bs.formL x3
 obtain⟨b0,bc0,rfl⟩:=Bs.formL x4
 obtain⟨bA0,bn0,rfl⟩:=Bs.formL hb
 obtain⟨eA0,en0,rfl⟩:=Bs.formL hs
 have HLN:=iH (And.intro l1 (And.intro l2 (And.intro l3 (And.intro l4 ns))))
 have hV:VRQ9 w w [] [(.slice s0 X.sec.length sc0,X.sec),(.slice n0 X.non.length nc0,X.non),(.slice a0 X.k1.length ac0,X.k1),(.slice b0 X.k2.length bc0,X.k2),(.slice bA0 B.length bn0,B),(.slice eA0 s.length en0,s)]:=
  ⟨Below.refl _ _,fun r h=>by simp at h,fun x h=>by
   simp only [List.mem_cons,List.not_mem_nil,or_false]at h
   rcases h with rfl|rfl|rfl|rfl|rfl|rfl
   ·exact x1
   ·exact x2
   ·exact x3
   ·exact x4
   ·exact hb
   ·exact hs⟩
 obtain⟨w0,hw0⟩:∃z,z=w.alloc (.cells (exX X s0 n0 a0 b0 sc0 nc0 ac0 bc0) 48):=⟨_,rfl⟩
 have V0Q9:Hid (VRQ9 w w0 _ _):=iH (by rw [hw0];exact hV.row (exX X s0 n0 a0 b0 sc0 nc0 ac0 bc0))
 have HW0:=iH hw0;have HK:=iH hK
 obtain⟨⟨er,Y,D,N⟩,hc⟩:∃r,jv X B s=r:=⟨_,rfl⟩
 obtain⟨⟨es,Z,E,M⟩,ht⟩:∃r,jl X B s=r:=⟨_,rfl⟩
 have HC:=iH hc;have HT:=iH ht
 clear hw0 hV x1 x2 x3 x4 hb hs l1 l2 l3 l4 ns hK hc ht
 go_enter Tryz.func6,Tryz.ntmps6
 go_upto_region 1 with fail
 rw [<-HW0.out]
 have f:=j4 (V0Q9.out.rw 0 rfl)
 go_upto_region 2 with (go_at_call 33;refine(j20 X s0 n0 a0 b0 sc0 nc0 ac0 bc0 bA0 eA0 bn0 en0 B s w0 (HK.out.2.below V0Q9.out.bel HK.out.2.lt) (V0Q9.out.at 0 rfl) (V0Q9.out.at 1 rfl) (V0Q9.out.at 2 rfl) (V0Q9.out.at 3 rfl) (V0Q9.out.at 4 rfl) (V0Q9.out.at 5 rfl) HLN.out.1 HLN.out.2.1 HLN.out.2.2.1 HLN.out.2.2.2.1 HLN.out.2.2.2.2).mono ?_;rw [HC.out];rintro e w1 ⟨y,dd1,dc1,nn1,nd1,rfl,⟨u1,u2,u3,u4,rfl,hs,hn,ha,hb⟩,hd,hx,hbw⟩;obtain⟨s1,sc1,hp⟩:=Bs.formL hs;subst hp;obtain⟨n1,nc1,hp⟩:=Bs.formL hn;subst hp;obtain⟨a1,ac1,hp⟩:=Bs.formL ha;subst hp;obtain⟨b1,bc1,hp⟩:=Bs.formL hb;subst hp;have V1Q9:=iH (((((((V0Q9.out.on hbw).add hs).add hn).add ha).add hb).add hd).add hx);clear f;clear hs hn ha hb hd hx hbw)
 obtain⟨w2,hw⟩:∃z,z=w1.alloc (.cells (exX Y s1 n1 a1 b1 sc1 nc1 ac1 bc1) 48):=⟨_,rfl⟩
 rw [<-hw]
 have V2Q9:Hid (VRQ9 w w2 _ _):=iH (by rw [hw];exact V1Q9.out.row (exX Y s1 n1 a1 b1 sc1 nc1 ac1 bc1))
 clear hw
 have f:=j4 (V2Q9.out.rw 1 rfl)
 go_upto_region 3 with (go_at_call 34;refine(j0l X s0 n0 a0 b0 sc0 nc0 ac0 bc0 bA0 eA0 bn0 en0 B s w2 (HK.out.1.below V2Q9.out.bel HK.out.1.lt) (V2Q9.out.at 6 rfl) (V2Q9.out.at 7 rfl) (V2Q9.out.at 8 rfl) (V2Q9.out.at 9 rfl) (V2Q9.out.at 10 rfl) (V2Q9.out.at 11 rfl) HLN.out.1 HLN.out.2.1 HLN.out.2.2.1 HLN.out.2.2.2.1 HLN.out.2.2.2.2).mono ?_;rw [HC.out];rintro e w3 ⟨y,dd2,dc2,nn2,nd2,rfl,⟨u1,u2,u3,u4,rfl,hs,hn,ha,hb⟩,hd,hx,hbw⟩;obtain⟨s2,sc2,hp⟩:=Bs.formL hs;subst hp;obtain⟨n2,nc2,hp⟩:=Bs.formL hn;subst hp;obtain⟨a2,ac2,hp⟩:=Bs.formL ha;subst hp;obtain⟨b2,bc2,hp⟩:=Bs.formL hb;subst hp;have V3Q9:=iH (((((((V2Q9.out.on hbw).add hs).add hn).add ha).add hb).add hd).add hx);clear f;clear hs hn ha hb hd hx hbw)
 obtain⟨w4,hw⟩:∃z,z=w3.alloc (.cells (exX Y s2 n2 a2 b2 sc2 nc2 ac2 bc2) 48):=⟨_,rfl⟩
 rw [<-hw]
 have V4Q9:Hid (VRQ9 w w4 _ _):=iH (by rw [hw];exact V3Q9.out.row (exX Y s2 n2 a2 b2 sc2 nc2 ac2 bc2))
 clear hw
 have f:=j4 (V4Q9.out.rw 2 rfl)
 go_upto_region 4 with (go_at_call 35;refine(j3n X s0 n0 a0 b0 sc0 nc0 ac0 bc0 bA0 eA0 bn0 en0 B s w4 (HK.out.2.below V4Q9.out.bel HK.out.2.lt) (V4Q9.out.at 12 rfl) (V4Q9.out.at 13 rfl) (V4Q9.out.at 14 rfl) (V4Q9.out.at 15 rfl) (V4Q9.out.at 16 rfl) (V4Q9.out.at 17 rfl) HLN.out.1 HLN.out.2.1 HLN.out.2.2.1 HLN.out.2.2.2.1 HLN.out.2.2.2.2).mono ?_;rw [HT.out];rintro e w5 ⟨y,dd3,dc3,nn3,nd3,rfl,⟨u1,u2,u3,u4,rfl,hs,hn,ha,hb⟩,hd,hx,hbw⟩;obtain⟨s3,sc3,hp⟩:=Bs.formL hs;subst hp;obtain⟨n3,nc3,hp⟩:=Bs.formL hn;subst hp;obtain⟨a3,ac3,hp⟩:=Bs.formL ha;subst hp;obtain⟨b3,bc3,hp⟩:=Bs.formL hb;subst hp;have V5Q9:=iH (((((((V4Q9.out.on hbw).add hs).add hn).add ha).add hb).add hd).add hx);clear f;clear hs hn ha hb hd hx hbw)
 obtain⟨w6,hw⟩:∃z,z=w5.alloc (.cells (exX Z s3 n3 a3 b3 sc3 nc3 ac3 bc3) 48):=⟨_,rfl⟩
 rw [<-hw]
 have V6Q9:Hid (VRQ9 w w6 _ _):=iH (by rw [hw];exact V5Q9.out.row (exX Z s3 n3 a3 b3 sc3 nc3 ac3 bc3))
 clear hw
 have f:=j4 (V6Q9.out.rw 3 rfl)
 go_upto_region 5 with (go_at_call 36;refine(j0t X s0 n0 a0 b0 sc0 nc0 ac0 bc0 bA0 eA0 bn0 en0 B s w6 (HK.out.1.below V6Q9.out.bel HK.out.1.lt) (V6Q9.out.at 18 rfl) (V6Q9.out.at 19 rfl) (V6Q9.out.at 20 rfl) (V6Q9.out.at 21 rfl) (V6Q9.out.at 22 rfl) (V6Q9.out.at 23 rfl) HLN.out.1 HLN.out.2.1 HLN.out.2.2.1 HLN.out.2.2.2.1 HLN.out.2.2.2.2).mono ?_;rw [HT.out];rintro e w7 ⟨y,dd4,dc4,nn4,nd4,rfl,⟨u1,u2,u3,u4,rfl,hs,hn,ha,hb⟩,hd,hx,hbw⟩;obtain⟨s4,sc4,hp⟩:=Bs.formL hs;subst hp;obtain⟨n4,nc4,hp⟩:=Bs.formL hn;subst hp;obtain⟨a4,ac4,hp⟩:=Bs.formL ha;subst hp;obtain⟨b4,bc4,hp⟩:=Bs.formL hb;subst hp;have V7Q9:=iH (((((((V6Q9.out.on hbw).add hs).add hn).add ha).add hb).add hd).add hx);clear f;clear hs hn ha hb hd hx hbw)
 obtain⟨w8,hw⟩:∃z,z=w7.alloc (.cells (exX Z s4 n4 a4 b4 sc4 nc4 ac4 bc4) 48):=⟨_,rfl⟩
 rw [<-hw]
 have V8Q9:Hid (VRQ9 w w8 _ _):=iH (by rw [hw];exact V7Q9.out.row (exX Z s4 n4 a4 b4 sc4 nc4 ac4 bc4))
 clear hw
 go_wp2_with(first
  |(go_at_call 22;refine(kL _ _ M M _ _ w14 (V14.out.at 6 rfl) (V14.out.at 0 rfl)).mono ?_;rintro e w15 ⟨rfl,nd,hw⟩;rw [decide_eq_true (rfl:M=M)];have hb:Below w14.heap.size w14 w15:=(by rw [hw];exact j3 iB nd);clear hw;have V15:=iH (V14.out.on hb);clear hb)
  |(go_at_call 22;refine(kL _ _ E E _ _ w13 (V13.out.at 7 rfl) (V13.out.at 1 rfl)).mono ?_;rintro e w14 ⟨rfl,nd,hw⟩;rw [decide_eq_true (rfl:E=E)];have hb:Below w13.heap.size w13 w14:=(by rw [hw];exact j3 iB nd);clear hw;have V14:=iH (V13.out.on hb);clear hb)
  |(go_at_call 32;refine(Zn Z s3 n3 a3 b3 sc3 nc3 ac3 bc3 s4 n4 a4 b4 sc4 nc4 ac4 bc4 w12 (V12.out.at 11 rfl) (V12.out.at 10 rfl) (V12.out.at 9 rfl) (V12.out.at 8 rfl) (V12.out.at 5 rfl) (V12.out.at 4 rfl) (V12.out.at 3 rfl) (V12.out.at 2 rfl)).mono ?_;rintro e w13 ⟨rfl,hb⟩;have V13:=iH (V12.out.on hb);clear hb;clear f g)
  |(go_at_call 22;refine(kL _ _ N N _ _ w11 (V11.out.at 18 rfl) (V11.out.at 12 rfl)).mono ?_;rintro e w12 ⟨rfl,nd,hw⟩;rw [decide_eq_true (rfl:N=N)];have hb:Below w11.heap.size w11 w12:=(by rw [hw];exact j3 iB nd);clear hw;have V12:=iH (V11.out.on hb);clear hb;have f:=j4 (V12.out.rw 1 rfl);have g:=j4 (V12.out.rw 0 rfl))
  |(go_at_call 22;refine(kL _ _ D D _ _ w10 (V10.out.at 19 rfl) (V10.out.at 13 rfl)).mono ?_;rintro e w11 ⟨rfl,nd,hw⟩;rw [decide_eq_true (rfl:D=D)];have hb:Below w10.heap.size w10 w11:=(by rw [hw];exact j3 iB nd);clear hw;have V11:=iH (V10.out.on hb);clear hb)
  |(go_at_call 32;refine(Zn Y s1 n1 a1 b1 sc1 nc1 ac1 bc1 s2 n2 a2 b2 sc2 nc2 ac2 bc2 w9 (V9.out.at 23 rfl) (V9.out.at 22 rfl) (V9.out.at 21 rfl) (V9.out.at 20 rfl) (V9.out.at 17 rfl) (V9.out.at 16 rfl) (V9.out.at 15 rfl) (V9.out.at 14 rfl)).mono ?_;rintro e w10 ⟨rfl,hb⟩;have V10:=iH (V9.out.on hb);clear hb;clear f g)
  |(go_at_call 11;refine(qV w8 (HK.out.2.below V8Q9.out.bel HK.out.2.lt)).mono ?_;rintro e w9 ⟨rfl,hb⟩;have V9:=iH (V8Q9.out.on hb);clear hb;have f:=j4 (V9.out.rw 3 rfl);have g:=j4 (V9.out.rw 2 rfl)))
 go_ret
 exact⟨rfl,V15.out.bel⟩
end
end Go.Proofs.YtalmmiojbmpmiaaGreatDoor
