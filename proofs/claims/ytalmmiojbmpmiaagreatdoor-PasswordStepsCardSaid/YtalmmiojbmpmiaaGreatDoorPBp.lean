/- Layer 21, plain: two sides with the same password reach the same session; the lengths of all data. No program is named here; Layer 21: awake -/
import Derived.Test.YtalmmiojbmpmiaaGreatDoorPBn
import Derived.Test.YtalmmiojbmpmiaaGreatDoorPBm
import Derived.Test.YtalmmiojbmpmiaaGreatDoorPBo
set_option linter.all false
set_option maxRecDepth 100000
set_option maxHeartbeats 8000000
namespace Go.Proofs.YtalmmiojbmpmiaaGreatDoor
open Go.RowKit Go.Deep
theorem Qh(tag:Int)(v:List UInt8)(ht:tag=0\/(128<=tag/\tag<=134))(hv:v.length<=64):
 J0 (kP tag v)=.ok (kP tag v).enc/\jE tag v=(kP tag v).enc/\(kP tag v).enc.length<=200/\ki (jE tag v) true=.ok (kP tag v):=by
 have hlen:∀n,n<128->(qH n).length=1:=by intro n h;unfold qH;rw [iT h]<;>rfl
 have htb:∀t:Int,t<=255->(kg t).length=1:=by intro t h;unfold kg;rw [iF (by omega)]<;>rfl
 have t124:xy 124=true:=by decide
 have c124:kl 124=true:=by decide
 have htag:tag=0\/(xy tag=true/\kl tag=false):=by
  rcases ht with h|⟨h1,h2⟩
  ·exact .inl h
  ·right
   have:tag=128\/tag=129\/tag=130\/tag=131\/tag=132\/tag=133\/tag=134:=by omega
   rcases this with rfl|rfl|rfl|rfl|rfl|rfl|rfl<;>exact⟨by decide,by decide⟩
 obtain⟨hc,ha,hl⟩:(kP tag v).chk 1=0/\(kP tag v).all<=256/\(kP tag v).enc.length<=200:=by
  rcases htag with rfl|⟨h1,h2⟩
  ·refine⟨?_,?_,?_⟩
   ·simp [kP,Ns.chk,t124,c124,Ns.len]
   ·simp [kP,Ns.all]
   ·simp [kP,Ns.enc,c124,hlen,htb]
  ·have ht0:¬tag=0:=by intro h;rw [h]at h1;exact absurd h1 (by decide)
   have e0:∀K:Ns,(Ns.cons 124 [] K .nil).enc=kg 124++qH K.enc.length++K.enc:=by intro K;simp [Ns.enc,c124]
   refine⟨?_,?_,?_⟩
   ·simp [kP,Ns.chk,t124,c124,h1,h2,ht0,Ns.len]
   ·simp [kP,Ns.all,ht0]
   ·have e1:((Ns.cons tag v .nil .nil).enc).length=2+v.length:=by
     simp only [Ns.enc,h2,List.length_append,List.length_nil,Bool.false_eq_true,if_false]
     rw [htb tag (by omega),hlen v.length (by omega)]
     omega
    unfold kP
    rw [iF ht0,e0]
    simp only [List.length_append]
    rw [e1,htb 124 (by omega),hlen _ (by omega)]
    omega
 have hE:J0 (kP tag v)=.ok (kP tag v).enc:=by
  unfold J0
  rw [iF (by rw [hc];simp),iF (by omega),iF (by omega)]
 have hW:jE tag v=(kP tag v).enc:=by unfold jE;rw [hE]<;>rfl
 refine⟨hE,hW,hl,?_⟩
 rw [hW]
 exact XE true _ _ (VP true _ (by omega)) hc ha (by omega)
theorem j1q(n:Nat):kw (jE 0 []) 0 n=some []:=by
 unfold kw
 rw [(Qh 0 [] (.inl rfl) (by simp)).2.2.2]
 simp [kP,Kq,Ns.len]
variable {kd m:Int} {sec:List UInt8}
theorem VW(kd:Int)(sec N:List UInt8)(h:N.length=16):(kZ (kS kd sec) Z16 N).length=16:=by rw [zp _ _ _ (m:=1) (by omega),Qb]
section
variable (hp:vPw kd sec=true) (hm:m=2\/m=3)
include hp hm
end
section
variable(X:Exg)(sA nA aA bA:Option Addr)(sc nc ac bc:Nat)(vA eA:Option Addr)(vc ec:Nat)(B s:List UInt8)(w:World)(hK:KD w)(h1:Bs w w.heap.size (.slice sA X.sec.length sc) X.sec)(h2:Bs w w.heap.size (.slice nA X.non.length nc) X.non)(h3:Bs w w.heap.size (.slice aA X.k1.length ac) X.k1)(h4:Bs w w.heap.size (.slice bA X.k2.length bc) X.k2)(h5:Bs w w.heap.size (.slice vA B.length vc) B)(h6:Bs w w.heap.size (.slice eA s.length ec) s)(ls:X.sec.length<=140737488351232)(ln:X.non.length<=140737488351232)(l1:X.k1.length<=140737488351232)(l2:X.k2.length<=140737488351232)(hl:s.length<=140737488351232)(hst:X.st=0)
include X sA nA aA bA sc nc ac bc vA eA vc ec B s w hK h1 h2 h3 h4 h5 h6 ls ln l1 l2 hl hst
theorem j1g(hus:usT X=true)(hB:B.length=0):Calls Tryz.prog 35 #[.agg #[.int .i64 X.kd,.slice sA X.sec.length sc,.int .i64 X.pr,.int .i64 X.st,.slice nA X.non.length nc,.int .i64 X.x,.int .i64 X.g,.int .i64 X.own,.int .i64 X.oth,.slice aA X.k1.length ac,.slice bA X.k2.length bc,.int .i64 X.ct],.slice vA B.length vc,.slice eA s.length ec] w (ExO (0,{X with st:=X.st+1},jE 0 [],s) w):=by
 have hr:jn X B s=(0,{X with st:=X.st+1},jE 0 [],s):=by
  unfold jn
  rw [iF (by omega),iF (by rw [hus];simp),iT hst,iF (by omega),hst]
  rfl
 rw [<-hr]
 exact zQ X sA nA aA bA sc nc ac bc vA eA vc ec B s w hK h1 h2 h3 h4 h5 h6 ls ln l1 l2 hl 89 (.inl ⟨hst,rfl⟩) (by omega) (by omega) hus [] (by unfold Xs;rw [iT hst,iT hB]) (-1) X rfl [] s (jE 0 []) (fun A c W _=>Kt _ W) (fun P sA nA aA bA sc nc ac bc vA eA vc ec w k r h1 h2 h3 h4 h5 h6 h7=>Vy P X sA nA aA bA sc nc ac bc vA eA vc ec [] s w k r h1 h2 h3 h4 h5 h6 h7) hr
theorem VJ(hus:usC X=true)(hB:kw B 0 (Qd X)=some []):Calls Tryz.prog 33 #[.agg #[.int .i64 X.kd,.slice sA X.sec.length sc,.int .i64 X.pr,.int .i64 X.st,.slice nA X.non.length nc,.int .i64 X.x,.int .i64 X.g,.int .i64 X.own,.int .i64 X.oth,.slice aA X.k1.length ac,.slice bA X.k2.length bc,.int .i64 X.ct],.slice vA B.length vc,.slice eA s.length ec] w (ExO (0,{X with non:=js s 16,st:=X.st+1},jE 128 (qn X.kd X.sec (js s 16)).2,sdW s) w):=by
 have hp:vPw X.kd X.sec=true:=by
  unfold usC kh at hus
  rcases h:vPw X.kd X.sec with _|_
  ·rw [h]at hus;simp at hus
  ·rfl
 have htg:zS X.st=0:=by unfold zS;rw [iT hst]
 have hd:(js s 16).length=16:=by unfold js;rw [List.length_take,je];omega
 have hh:qn X.kd X.sec (js s 16)=(0,kZ (kS X.kd X.sec) Z16 (js s 16)):=by
  unfold qn
  rw [iF (by rw [hp];simp),iF (by omega)]
 have hr:jv X B s=(0,{X with non:=js s 16,st:=X.st+1},jE 128 (qn X.kd X.sec (js s 16)).2,sdW s):=by
  unfold jv
  rw [iF (by omega),iF (by rw [hus];simp),htg,hB]
  simp only []
  rw [iT hst,hst]
  rfl
 rw [<-hr]
 exact yK X sA nA aA bA sc nc ac bc vA eA vc ec B s w hK h1 h2 h3 h4 h5 h6 ls ln l1 l2 hl 71 (.inl ⟨hst,rfl⟩) (by omega) hus [] (by rw [htg];exact hB) 128 ⟨by omega,by omega⟩ {X with non:=js s 16} rfl (qn X.kd X.sec (js s 16)).2 (sdW s) (by rw [hh];show(kZ (kS X.kd X.sec) Z16 (js s 16)).length<=64;rw [VW _ _ _ hd];omega) (fun P sA nA aA bA sc nc ac bc vA eA vc ec w k r h1 h2 h3 h4 h5 h6 h7=>yg P X sA nA aA bA sc nc ac bc vA eA vc ec [] s w k r h1 h2 h3 h4 h5 h6 h7 hp) hr
end
theorem Ue(w:World)(hK:KD w):Calls Tryz.prog 11 #[] w fun e w'=>e=.returned (.bool true)/\Below w.heap.size w w':=by
 obtain⟨w1,hw1⟩:∃z,z=(w.alloc (.cells #[.int .u8 49,.int .u8 50,.int .u8 51,.int .u8 52,.int .u8 53,.int .u8 54] 5 (6,7))).alloc (.cells #[.int .i64 2,.slice (some ⟨w.heap.size,0,none⟩) 6 6] 24):=⟨_,rfl⟩
 have hb1:Below w.heap.size w w1:=by rw [hw1];exact yY w _ _
 have hh6:(w.alloc (.cells #[.int .u8 49,.int .u8 50,.int .u8 51,.int .u8 52,.int .u8 53,.int .u8 54] 5 (6,7))).heap[w.heap.size]?=some (.cells #[.int .u8 49,.int .u8 50,.int .u8 51,.int .u8 52,.int .u8 53,.int .u8 54] 5 (6,7)):=iN
 have hl6:BsS (w.alloc (.cells #[.int .u8 49,.int .u8 50,.int .u8 51,.int .u8 52,.int .u8 53,.int .u8 54] 5 (6,7))) (New w (w.alloc (.cells #[.int .u8 49,.int .u8 50,.int .u8 51,.int .u8 52,.int .u8 53,.int .u8 54] 5 (6,7)))) (.slice (some ⟨w.heap.size,0,none⟩) 6 6) [49,50,51,52,53,54]:=by
  refine⟨_,6,rfl,by simp,by omega,by simp,fun _=>⟨w.heap.size,0,rfl,⟨Nat.le_refl _,by simp⟩,fun j hj=> ?_⟩⟩
  have hj:j<6:=hj
  obtain rfl|rfl|rfl|rfl|rfl|rfl:j=0\/j=1\/j=2\/j=3\/j=4\/j=5:=by omega
  all_goals(rw [cell_of_row _ _ _ _ _ _ hh6]<;>rfl)
 obtain⟨S6,hS6⟩:∃l:List UInt8,l= [49,50,51,52,53,54]:=⟨_,rfl⟩
 rw [<-hS6]at hl6
 have hS6l:S6.length=6:=by rw [hS6]<;>rfl
 have H6:Hid (Bs w1 w1.heap.size (.slice (some ⟨w.heap.size,0,none⟩) 6 6) S6):=iH (by rw [hw1];exact hl6.keep fun g hg hl=>⟨Below.heap_alloc _ _ _ hl,iZ hl (by simp)⟩)
 obtain⟨c0,c1,_⟩:=two (show w1.heap[w.heap.size+1]?=some (.cells #[.int .i64 2,.slice (some ⟨w.heap.size,0,none⟩) 6 6] 24 (0,0))by rw [hw1];have:=heap_alloc_new (w.alloc (.cells #[.int .u8 49,.int .u8 50,.int .u8 51,.int .u8 52,.int .u8 53,.int .u8 54] 5 (6,7))) (.cells #[.int .i64 2,.slice (some ⟨w.heap.size,0,none⟩) 6 6] 24);simpa using this)
 have hvp:vPw 2 S6=true:=by rw [hS6];decide
 obtain⟨X,hX⟩:∃X,bgX 2 S6 2=X:=⟨_,rfl⟩
 have hbg:j28 2 S6 2=(0,X):=by unfold j28;rw [iF (by rw [hvp];simp),iF (by simp),hX]
 have HBG:=iH (VC 2 S6 (some ⟨w.heap.size,0,none⟩) 6 2 w1 (by rw [hS6l];exact H6.out) (by omega))
 rw [hbg,hS6l]at HBG
 have hXs:X.st=0:=by rw [<-hX]<;>rfl
 have hXe:X.sec=S6:=by rw [<-hX]<;>rfl
 have hXk:X.kd=2:=by rw [<-hX]<;>rfl
 have hXn:X.non= []/\X.k1= []/\X.k2= []/\X.pr=2:=by rw [<-hX];exact⟨rfl,rfl,rfl,rfl⟩
 have hbX:kh X=true:=by unfold kh;rw [hXk,hXe,hvp,hXn.2.2.2];decide
 have hut:usT X=true:=by unfold usT;rw [hbX,hXs];simp
 have huc:usC X=true:=by unfold usC;rw [hbX,hXs];simp
 have hls:X.sec.length<=140737488351232:=by rw [hXe,hS6l];omega
 have hln:X.non.length<=140737488351232:=by rw [hXn.1];simp
 have hl1:X.k1.length<=140737488351232:=by rw [hXn.2.1];simp
 have hl2:X.k2.length<=140737488351232:=by rw [hXn.2.2.1];simp
 obtain⟨Y,hY⟩:∃Y:Exg,{X with st:=X.st+1}=Y:=⟨_,rfl⟩
 have hYs:(Y.st==1)=true:=by rw [<-hY,hXs]<;>rfl
 obtain⟨U,hU⟩:∃U,jE 0 []=U:=⟨_,rfl⟩
 have hUl:U.length=2:=by rw [<-hU]<;>rfl
 have tU:((U.length:Int)==2)=true:=by rw [hUl]<;>rfl
 obtain⟨Z,hZ⟩:∃Z:Exg,{X with non:=js [1] 16,st:=X.st+1}=Z:=⟨_,rfl⟩
 have hd:(js [1] 16).length=16:=by unfold js;rw [List.length_take,je];omega
 have hZs:(Z.st==1)=true:=by rw [<-hZ,hXs]<;>rfl
 have hZn:Z.non.length=16:=by rw [<-hZ];exact hd
 have tZ:((Z.non.length:Int)==16)=true:=by rw [hZn]<;>rfl
 obtain⟨V,hV⟩:∃V,jE 128 (qn X.kd X.sec (js [1] 16)).2=V:=⟨_,rfl⟩
 have hVl:V.length=20:=by
  have hh:qn X.kd X.sec (js [1] 16)=(0,kZ (kS X.kd X.sec) Z16 (js [1] 16)):=by
   unfold qn
   rw [iF (by rw [hXk,hXe,hvp];simp),iF (by omega)]
  rw [hh]at hV
  obtain⟨q,hq⟩:∃q,kZ (kS X.kd X.sec) Z16 (js [1] 16)=q:=⟨_,rfl⟩
  have hql:q.length=16:=by rw [<-hq];exact VW _ _ _ hd
  rw [<-hV,hq,(Qh 128 q (.inr ⟨by omega,by omega⟩) (by omega)).2.1]
  have c124:kl 124=true:=by decide
  have c128:kl 128=false:=by decide
  have i1:(Ns.cons 128 q .nil .nil).enc.length=18:=by simp [Ns.enc,c128,hql,qH,kg]
  have i2:∀K:Ns,(Ns.cons 124 [] K .nil).enc=kg 124++qH K.enc.length++K.enc:=by intro K;simp [Ns.enc,c124]
  unfold kP
  rw [iF (by omega),i2,i1]
  simp [i1,qH,kg]
 have tV:((V.length:Int)==20)=true:=by rw [hVl]<;>rfl
 have hval:kw U 0 (Qd X)=some []:=by rw [<-hU];exact j1q _
 have HW1:=iH hw1;have HB1:=iH hb1;have HK:=iH hK
 have HX:=iH (And.intro hXs (And.intro hut (And.intro huc hval)))
 have HL:=iH (And.intro hls (And.intro hln (And.intro hl1 hl2)))
 have HUU:=iH hU;have HVV:=iH hV;have HYY:=iH hY;have HZZ:=iH hZ
 clear hw1 hb1 hl6 hS6 hS6l H6 hvp hX hbg hXs hXe hXk hXn hbX hut huc hls hln hl1 hl2 hU hUl hV hVl hY hZ hd hZn hval hK
 have HCV:(convert 22 22 (.slice (some ⟨w.heap.size,0,none⟩) 6 6)).run Tryz.prog (w.alloc (.cells #[.int .u8 49,.int .u8 50,.int .u8 51,.int .u8 52,.int .u8 53,.int .u8 54] 5))=.ok (.slice (some ⟨w.heap.size,0,none⟩) 6 6) (w.alloc (.cells #[.int .u8 49,.int .u8 50,.int .u8 51,.int .u8 52,.int .u8 53,.int .u8 54] 5 (6,7))):=Lib.run_convert_bytes_const (P:=Tryz.prog) w 22 5 _ 6 6 Tryz.underlying22 Tryz.underlying5
 go_enter Tryz.func11,Tryz.ntmps11
 go_upto_region 2 with fail
 rw [<-HW1.out]
 go_upto_region 3 with (go_at_call 30;refine HBG.out.mono ?_;rintro e w2 ⟨y,rfl,⟨u1,u2,u3,u4,rfl,hs,hn,ha,hb⟩,hbw⟩;obtain⟨sx,scx,hp⟩:=Bs.formL hs;subst hp;obtain⟨nx,ncx,hp⟩:=Bs.formL hn;subst hp;obtain⟨ax,acx,hp⟩:=Bs.formL ha;subst hp;obtain⟨bx,bcx,hp⟩:=Bs.formL hb;subst hp;have S_x:=iH hs;have Nx:=iH hn;have Ax:=iH ha;have Bx:=iH hb;clear hs hn ha hb;have HB2:=iH (HB1.out.trans (hbw.mono HB1.out.size));clear hbw c0 c1)
 obtain⟨w3,hw⟩:∃z,z=w2.alloc (.cells #[.int .i64 X.kd,.slice sx X.sec.length scx,.int .i64 X.pr,.int .i64 X.st,.slice nx X.non.length ncx,.int .i64 X.x,.int .i64 X.g,.int .i64 X.own,.int .i64 X.oth,.slice ax X.k1.length acx,.slice bx X.k2.length bcx,.int .i64 X.ct] 48):=⟨_,rfl⟩
 rw [<-hw]
 have RX:Hid (w3.heap[w2.heap.size]?=some (.cells #[.int .i64 X.kd,.slice sx X.sec.length scx,.int .i64 X.pr,.int .i64 X.st,.slice nx X.non.length ncx,.int .i64 X.x,.int .i64 X.g,.int .i64 X.own,.int .i64 X.oth,.slice ax X.k1.length acx,.slice bx X.k2.length bcx,.int .i64 X.ct] 48 (0,0))):=iH (by rw [hw];exact iN)
 have hbw3:Below w2.heap.size w2 w3:=by rw [hw];exact ju _ _
 clear hw
 have HB3:=iH (HB2.out.trans (hbw3.mono HB2.out.size));have HU3:=iH hbw3
 obtain⟨f0,f1,f2,f3,f4,f5,f6,f7,f8,f9,f10,f11,ff⟩:=j4 RX.out
 clear hbw3 ff
 go_upto_region 4 with (go_at_call 35;refine(j1g X sx nx ax bx scx ncx acx bcx none none 0 0 [] [] w3 (HK.out.below HB3.out HK.out.lt) (Bs.lift S_x.out HU3.out) (Bs.lift Nx.out HU3.out) (Bs.lift Ax.out HU3.out) (Bs.lift Bx.out HU3.out) (kH _ _) (kH _ _) HL.out.1 HL.out.2.1 HL.out.2.2.1 HL.out.2.2.2 (by simp) HX.out.1 HX.out.2.1 rfl).mono ?_;rw [HYY.out,HUU.out];rintro e w4 ⟨y,dA,dc,tA,tc,rfl,⟨u1,u2,u3,u4,rfl,hs,hn,ha,hb⟩,hd,_,hbw⟩;obtain⟨sv,scv,hp⟩:=Bs.formL hs;subst hp;obtain⟨nv,ncv,hp⟩:=Bs.formL hn;subst hp;obtain⟨av,acv,hp⟩:=Bs.formL ha;subst hp;obtain⟨bv,bcv,hp⟩:=Bs.formL hb;subst hp;have Sv:=iH hs;have Nv:=iH hn;have Av:=iH ha;have Bv:=iH hb;clear hs hn ha hb;have DD:=iH hd;have HB4:=iH hbw;obtain⟨g0,g1,g2,g3,g4,g5,g6,g7,g8,g9,g10,g11,gf⟩:=j4 ((hbw.block _ (lt_of_block RX.out)).trans RX.out);clear hd hbw f0 f1 f2 f3 f4 f5 f6 f7 f8 f9 f10 f11 gf)
 obtain⟨w5,hw⟩:∃z,z=w4.alloc (.cells #[.int .i64 Y.kd,.slice sv Y.sec.length scv,.int .i64 Y.pr,.int .i64 Y.st,.slice nv Y.non.length ncv,.int .i64 Y.x,.int .i64 Y.g,.int .i64 Y.own,.int .i64 Y.oth,.slice av Y.k1.length acv,.slice bv Y.k2.length bcv,.int .i64 Y.ct] 48):=⟨_,rfl⟩
 rw [<-hw]
 have RY:Hid (w5.heap[w4.heap.size]?=some (.cells #[.int .i64 Y.kd,.slice sv Y.sec.length scv,.int .i64 Y.pr,.int .i64 Y.st,.slice nv Y.non.length ncv,.int .i64 Y.x,.int .i64 Y.g,.int .i64 Y.own,.int .i64 Y.oth,.slice av Y.k1.length acv,.slice bv Y.k2.length bcv,.int .i64 Y.ct] 48 (0,0))):=iH (by rw [hw];exact iN)
 have hbw5:Below w4.heap.size w4 w5:=by rw [hw];exact ju _ _
 clear hw
 have HU5:=iH hbw5
 have HB5:=iH (HB4.out.trans (hbw5.mono HB4.out.size))
 clear g0 g1 g2 g3 g4 g5 g6 g7 g8 g9 g10 g11
 obtain⟨f0,f1,f2,f3,f4,f5,f6,f7,f8,f9,f10,f11,ff⟩:=j4 ((HB5.out.block _ (lt_of_block RX.out)).trans RX.out)
 clear hbw5 ff
 obtain⟨w6,hw6⟩:∃z,z=w5.alloc (.cells #[.int .u8 1] 5):=⟨_,rfl⟩
 have hl1:BsS w6 (New w5 w6) (.slice (some ⟨w5.heap.size,0,none⟩) 1 1) [1]:=by rw [hw6];exact JW w5 [1] 5 (by simp) _ rfl
 have hb6:Below w5.heap.size w5 w6:=by rw [hw6];exact ju _ _
 have HW6:=iH hw6
 have HL1:Hid (Bs w6 w6.heap.size (.slice (some ⟨w5.heap.size,0,none⟩) 1 1) [1]):=iH (hl1.keep fun g hg _=>⟨rfl,hg.2⟩)
 have HB36:=iH (HB5.out.trans (hb6.mono HB5.out.size))
 have DD6:=iH (Bs.lift (Bs.lift DD.out HU5.out) hb6)
 have HY6:=iH ((hb6.block _ (lt_of_block RY.out)).trans RY.out)
 clear hw6 hl1 hb6
 go_upto_region 5 with (go_at_call 33;rw [<-HW6.out];refine(VJ X sx nx ax bx scx ncx acx bcx dA (some ⟨w5.heap.size,0,none⟩) dc 1 U [1] w6 (HK.out.below (HB3.out.trans (HB36.out.mono HB3.out.size)) HK.out.lt) (Bs.lift (Bs.lift S_x.out HU3.out) HB36.out) (Bs.lift (Bs.lift Nx.out HU3.out) HB36.out) (Bs.lift (Bs.lift Ax.out HU3.out) HB36.out) (Bs.lift (Bs.lift Bx.out HU3.out) HB36.out) DD6.out HL1.out HL.out.1 HL.out.2.1 HL.out.2.2.1 HL.out.2.2.2 (by simp) HX.out.1 HX.out.2.2.1 HX.out.2.2.2).mono ?_;rw [HZZ.out,HVV.out];rintro e w7 ⟨y,eA,ec,tA2,tc2,rfl,⟨u1,u2,u3,u4,rfl,hs,hn,ha,hb⟩,_,_,hbw⟩;obtain⟨sz,scz,hp⟩:=Bs.formL hs;subst hp;obtain⟨nz,ncz,hp⟩:=Bs.formL hn;subst hp;obtain⟨az,acz,hp⟩:=Bs.formL ha;subst hp;obtain⟨bz,bcz,hp⟩:=Bs.formL hb;subst hp;have Sz:=iH hs;have Nz:=iH hn;have Az:=iH ha;have Bz:=iH hb;clear hs hn ha hb;have HB7:=iH hbw;clear hbw f0 f1 f2 f3 f4 f5 f6 f7 f8 f9 f10 f11)
 obtain⟨w8,hw⟩:∃z,z=w7.alloc (.cells #[.int .i64 Z.kd,.slice sz Z.sec.length scz,.int .i64 Z.pr,.int .i64 Z.st,.slice nz Z.non.length ncz,.int .i64 Z.x,.int .i64 Z.g,.int .i64 Z.own,.int .i64 Z.oth,.slice az Z.k1.length acz,.slice bz Z.k2.length bcz,.int .i64 Z.ct] 48):=⟨_,rfl⟩
 rw [<-hw]
 have RZ:Hid (w8.heap[w7.heap.size]?=some (.cells #[.int .i64 Z.kd,.slice sz Z.sec.length scz,.int .i64 Z.pr,.int .i64 Z.st,.slice nz Z.non.length ncz,.int .i64 Z.x,.int .i64 Z.g,.int .i64 Z.own,.int .i64 Z.oth,.slice az Z.k1.length acz,.slice bz Z.k2.length bcz,.int .i64 Z.ct] 48 (0,0))):=iH (by rw [hw];exact iN)
 have hbw8:Below w7.heap.size w7 w8:=by rw [hw];exact ju _ _
 clear hw
 have HB8:=iH (HB7.out.trans (hbw8.mono HB7.out.size))
 obtain⟨f0,f1,f2,f3,f4,f5,f6,f7,f8,f9,f10,f11,ff⟩:=j4 RZ.out
 obtain⟨g0,g1,g2,g3,g4,g5,g6,g7,g8,g9,g10,g11,gf⟩:=j4 ((HB8.out.block _ (lt_of_block HY6.out)).trans HY6.out)
 clear hbw8 ff gf
 go_wp2_with fail
 go_ret
 exact⟨rfl,(HB3.out.trans (HB36.out.mono HB3.out.size)).trans (HB8.out.mono (HB3.out.trans (HB36.out.mono HB3.out.size)).size)⟩
end Go.Proofs.YtalmmiojbmpmiaaGreatDoor
