/- Layer 21: the data of a step, read on both sides -/
import Derived.Deep.RegionLawGrows
import Derived.Lib.SlBytesConst
import Derived.Test.YtalmmiojbmpmiaaGreatDoorPBk
import Derived.Test.YtalmmiojbmpmiaaGreatDoorPBo
set_option linter.all false
set_option maxRecDepth 100000
set_option maxHeartbeats 2000000
namespace Go.Proofs.YtalmmiojbmpmiaaGreatDoor
open Go.RowKit Go.Deep
theorem j2x{b:List UInt8}{l:Ns}(h:jS b true=.ok l):l.chk 1=0:=by
 have:=(Ks h).1
 unfold Ky at this
 split at this
 ·cases this
 ·rename_i h1
  exact Decidable.not_not.1 h1
theorem ns1{w:World}{S:Nat->Prop}{v:Value}{t:Int}{vv:List UInt8}{K:Ns}(h:NsS w S v (.cons t vv K .nil)):∃lb lo c ka kc xA xc,v=.slice (some ⟨lb,lo,none⟩) 1 c/\w.cell? ⟨lb,lo,none⟩=some (.int .i64 t)/\w.cell? ⟨lb,lo+1,none⟩=some (.slice xA vv.length xc)/\w.cell? ⟨lb,lo+2,none⟩=some (.slice ka K.len kc)/\BsS w S (.slice xA vv.length xc) vv/\NsS w S (.slice ka K.len kc) K:=by
 obtain⟨a,c,rfl,h1,h2,h3,h4⟩:=h
 obtain⟨lb,lo,rfl,hb,hlt,g0,gi,⟨x,g1,hx⟩,⟨ka,kc,g2,k1,k2,k3,k4⟩,_⟩:=h4 (by simp [Ns.len])
 obtain⟨xA,xc,rfl⟩:=Bs.formL hx
 refine⟨lb,lo,c,ka,kc,xA,xc,rfl,g0,g1,g2,hx,ka,kc,rfl,k1,k2,k3,fun hp=> ?_⟩
 obtain⟨b',o',e,q1,q2,q3⟩:=k4 hp
 exact⟨b',o',e,q1,q2,q3⟩
theorem ZY{l:Ns}(h:l.len=1):∃t vv K,l=.cons t vv K .nil:=by
 cases l with
 |nil=>simp [Ns.len]at h
 |cons t vv K r=>cases r with
  |nil=>exact⟨_,_,_,rfl⟩
  |cons a b c d=>simp only [Ns.len]at h;omega
theorem X5{tag:Int}{z:Nat}{l:Ns}(h:¬l.len=1):QZ tag z l=none:=by
 unfold QZ
 split
 ·exact absurd rfl h
 ·rfl
theorem VX{tag:Int}{z:Nat}{vv:List UInt8}{K:Ns}(h0:¬tag=0)(h:¬K.len=1):QZ tag z (.cons 124 vv K .nil)=none:=by
 simp only [QZ,iF h0,iF (show ¬¬(124:Int)=124 by simp)]
 rcases K with _|⟨u,v,k,r⟩
 ·rfl
 ·rcases r with _|⟨_,_,_,_⟩
  ·exact absurd rfl h
  ·rfl
def ValOut(r:Option (List UInt8))(w:World)(e:Ending)(w':World):Prop:=∃v',e=.returned (.tuple #[v',.bool r.isSome])/\BsS w' (New w w') v' (r.getD [])/\Below w.heap.size w w'
theorem ValOut.no0{w w':World}{r:Option (List UInt8)}(hr:r=.none)(hb:Below w.heap.size w w'):ValOut r w (.returned (.tuple #[.slice none 0 0,.bool false])) w':=by
 subst hr
 exact⟨_,rfl,⟨Option.none,0,rfl,by simp,by omega,by simp,fun h=>by simp at h⟩,hb⟩
theorem ValOut.nil0{w w':World}{r:Option (List UInt8)}(hr:r=some [])(hb:Below w.heap.size w w'):ValOut r w (.returned (.tuple #[.slice none 0 0,.bool true])) w':=by
 subst hr
 exact⟨_,rfl,⟨Option.none,0,rfl,by simp,by omega,by simp,fun h=>by simp at h⟩,hb⟩
theorem Qp(z:Nat)(B:List UInt8)(v:Value)(w:World)(hv:Bs w w.heap.size v B):
 Calls Tryz.prog 69 #[v,.int .i64 (-1),.int .i64 z] w (ValOut (qa B 0 z) w):=by
 have HP:=iH (Kg B v true w hv)
 obtain⟨A,c,rfl⟩:=Bs.formL hv
 clear hv
 cases hp:jS B true with
 |error er=>
  have R:Hid (qa B 0 z=.none):=iH (by unfold qa;rw [hp])
  have her:(er != 0)=true:=by have:=zF hp;simp [this]
  rw [hp]at HP
  clear hp
  go_enter Tryz.func69,Tryz.ntmps69
  go_wp2_with(go_at_call 124;refine HP.out.mono ?_;rintro e w1 h;obtain⟨a1,c1,rfl,hb⟩:=h.err;have HB:=iH hb;clear hb h)
  go_ret2
  exact ValOut.no0 R.out HB.out
 |ok l=>
  rw [hp]at HP
  by_cases h1:l.len=1
  ·obtain⟨t,vv,K,rfl⟩:=ZY h1
   clear h1
   by_cases h124:t=124
   ·subst h124
    by_cases hk0:K.len=0
    ·have R:Hid (qa B 0 z=some []):=iH (by unfold qa;rw [hp];simp [QZ,hk0])
     clear hp
     go_enter Tryz.func69,Tryz.ntmps69
     go_upto_region 2 with (go_at_call 124;refine HP.out.mono ?_;rintro e w1 h;obtain⟨a1,c1,rfl,hs,hb⟩:=h.got;obtain⟨lb,lo,c2,ka,kc,xA,xc,hv1,g0,g1,g2,hx,hk⟩:=ns1 hs;injection hv1 with e1 e2 e3;subst e1;clear e2 e3 h;have HK:=iH hk;have HB:=iH hb;clear hs hb hx hk)
     rw [hk0]at g2
     clear g1
     go_wp2_with fail
     go_ret2
     exact ValOut.nil0 R.out HB.out
    ·have R:Hid (qa B 0 z=.none):=iH (by unfold qa;rw [hp];simp [QZ,hk0])
     have t1:((K.len:Int)==0)=false:=by simp;omega
     clear hp hk0
     go_enter Tryz.func69,Tryz.ntmps69
     go_upto_region 2 with (go_at_call 124;refine HP.out.mono ?_;rintro e w1 h;obtain⟨a1,c1,rfl,hs,hb⟩:=h.got;obtain⟨lb,lo,c2,ka,kc,xA,xc,hv1,g0,g1,g2,hx,hk⟩:=ns1 hs;injection hv1 with e1 e2 e3;subst e1;clear e2 e3 h;have HK:=iH hk;have HB:=iH hb;clear hs hb hx hk)
     clear g1
     go_wp2_with fail
     go_ret2
     exact ValOut.no0 R.out HB.out
   ·have R:Hid (qa B 0 z=.none):=iH (by unfold qa;rw [hp];simp [QZ,h124])
    have t1:(t != 124)=true:=by simp [h124]
    clear hp h124
    go_enter Tryz.func69,Tryz.ntmps69
    go_upto_region 2 with (go_at_call 124;refine HP.out.mono ?_;rintro e w1 h;obtain⟨a1,c1,rfl,hs,hb⟩:=h.got;obtain⟨lb,lo,c2,ka,kc,xA,xc,hv1,g0,g1,g2,hx,hk⟩:=ns1 hs;injection hv1 with e1 e2 e3;subst e1;clear e2 e3 h;have HK:=iH hk;have HB:=iH hb;clear hs hb hx hk)
    clear g1 g2
    go_wp2_with fail
    go_ret2
    exact ValOut.no0 R.out HB.out
  ·have R:Hid (qa B 0 z=.none):=iH (by unfold qa;rw [hp];exact X5 h1)
   have t1:((l.len:Int) != 1)=true:=by simp;omega
   clear hp h1
   go_enter Tryz.func69,Tryz.ntmps69
   go_wp2_with(go_at_call 124;refine HP.out.mono ?_;rintro e w1 h;obtain⟨a1,c1,rfl,_,hb⟩:=h.got;have HB:=iH hb;clear hb h)
   go_ret2
   exact ValOut.no0 R.out HB.out
theorem yH(tag:Int)(ht:128<=tag/\tag<=134)(z:Nat)(B:List UInt8)(v:Value)(w:World)(hv:Bs w w.heap.size v B):
 Calls Tryz.prog 69 #[v,.int .i64 tag,.int .i64 z] w (ValOut (qa B tag z) w):=by
 have HP:=iH (Kg B v true w hv)
 obtain⟨A,c,rfl⟩:=Bs.formL hv
 clear hv
 have hm1:(tag== -1)=false:=by simp;omega
 have hz0:(tag==0)=false:=by simp;omega
 have h0:¬tag=0:=by omega
 cases hp:jS B true with
 |error er=>
  have R:Hid (qa B tag z=.none):=iH (by unfold qa;rw [hp])
  have her:(er != 0)=true:=by have:=zF hp;simp [this]
  rw [hp]at HP
  clear hp
  go_enter Tryz.func69,Tryz.ntmps69
  go_wp2_with(go_at_call 124;refine HP.out.mono ?_;rintro e w1 h;obtain⟨a1,c1,rfl,hb⟩:=h.err;have HB:=iH hb;clear hb h)
  go_ret2
  exact ValOut.no0 R.out HB.out
 |ok l=>
  rw [hp]at HP
  by_cases h1:l.len=1
  ·obtain⟨t,vv,K,rfl⟩:=ZY h1
   clear h1
   by_cases h124:t=124
   ·subst h124
    by_cases hk1:K.len=1
    ·obtain⟨u,v2,k2,rfl⟩:=ZY hk1
     clear hk1
     have hch:=j2x hp
     have hk2:u=tag->k2.len=0:=by
      intro e
      have hc:kj tag=false:=by
       have:tag=128\/tag=129\/tag=130\/tag=131\/tag=132\/tag=133\/tag=134:=by omega
       rcases this with rfl|rfl|rfl|rfl|rfl|rfl|rfl<;>decide
      rw [(yU (yU hch).2.2.2.2.1).2.1 (by rw [e];exact hc)]
      rfl
     by_cases hu:u=tag
     ·by_cases hl:v2.length=z
      ·have R:Hid (qa B tag z=some v2):=iH (by unfold qa;rw [hp];simp [QZ,h0,hu,hl])
       have t1:(u != tag)=false:=by simp [hu]
       have t2:((v2.length:Int) != z)=false:=by simp [hl]
       clear hp hu hl hch hk2
       go_enter Tryz.func69,Tryz.ntmps69
       go_upto_region 2 with (go_at_call 124;refine HP.out.mono ?_;rintro e w1 h;obtain⟨a1,c1,rfl,hs,hb⟩:=h.got;obtain⟨lb,lo,c2,ka,kc,xA,xc,hv1,g0,g1,g2,hx,hk⟩:=ns1 hs;injection hv1 with e1 e2 e3;subst e1;clear e2 e3 h;have HK:=iH hk;have HB:=iH hb;clear hs hb hx hk)
       obtain⟨kb,ko,c2,kA,kc2,yA,yc,hv2,q0,q1,q2,hy,_⟩:=ns1 HK.out
       injection hv2 with e1 e2 e3
       subst e1
       have HY:=iH hy
       clear e2 e3 hy g1 q2
       go_wp2_with fail
       go_ret2
       exact⟨_,by rw [R.out]<;>rfl,by rw [R.out];exact HY.out,HB.out⟩
      ·have R:Hid (qa B tag z=.none):=iH (by unfold qa;rw [hp];simp [QZ,h0,hl])
       have t1:(u != tag)=false:=by simp [hu]
       have t2:((v2.length:Int) != z)=true:=by simp;omega
       clear hp hu hl hch hk2
       go_enter Tryz.func69,Tryz.ntmps69
       go_upto_region 2 with (go_at_call 124;refine HP.out.mono ?_;rintro e w1 h;obtain⟨a1,c1,rfl,hs,hb⟩:=h.got;obtain⟨lb,lo,c2,ka,kc,xA,xc,hv1,g0,g1,g2,hx,hk⟩:=ns1 hs;injection hv1 with e1 e2 e3;subst e1;clear e2 e3 h;have HK:=iH hk;have HB:=iH hb;clear hs hb hx hk)
       obtain⟨kb,ko,c2,kA,kc2,yA,yc,hv2,q0,q1,q2,hy,_⟩:=ns1 HK.out
       injection hv2 with e1 e2 e3
       subst e1
       clear e2 e3 hy g1 q2
       go_wp2_with fail
       go_ret2
       exact ValOut.no0 R.out HB.out
     ·have R:Hid (qa B tag z=.none):=iH (by unfold qa;rw [hp];simp [QZ,h0,hu])
      have t1:(u != tag)=true:=by simp [hu]
      clear hp hu hch hk2
      go_enter Tryz.func69,Tryz.ntmps69
      go_upto_region 2 with (go_at_call 124;refine HP.out.mono ?_;rintro e w1 h;obtain⟨a1,c1,rfl,hs,hb⟩:=h.got;obtain⟨lb,lo,c2,ka,kc,xA,xc,hv1,g0,g1,g2,hx,hk⟩:=ns1 hs;injection hv1 with e1 e2 e3;subst e1;clear e2 e3 h;have HK:=iH hk;have HB:=iH hb;clear hs hb hx hk)
      obtain⟨kb,ko,c2,kA,kc2,yA,yc,hv2,q0,q1,q2,hy,_⟩:=ns1 HK.out
      injection hv2 with e1 e2 e3
      subst e1
      clear e2 e3 hy g1 q2 q1
      go_wp2_with fail
      go_ret2
      exact ValOut.no0 R.out HB.out
    ·have R:Hid (qa B tag z=.none):=iH (by
      unfold qa
      rw [hp]
      exact VX h0 hk1)
     have t1:((K.len:Int) != 1)=true:=by simp;omega
     clear hp hk1
     go_enter Tryz.func69,Tryz.ntmps69
     go_upto_region 2 with (go_at_call 124;refine HP.out.mono ?_;rintro e w1 h;obtain⟨a1,c1,rfl,hs,hb⟩:=h.got;obtain⟨lb,lo,c2,ka,kc,xA,xc,hv1,g0,g1,g2,hx,hk⟩:=ns1 hs;injection hv1 with e1 e2 e3;subst e1;clear e2 e3 h;have HK:=iH hk;have HB:=iH hb;clear hs hb hx hk)
     clear g1
     go_wp2_with fail
     go_ret2
     exact ValOut.no0 R.out HB.out
   ·have R:Hid (qa B tag z=.none):=iH (by unfold qa;rw [hp];simp [QZ,h124])
    have t1:(t != 124)=true:=by simp [h124]
    clear hp h124
    go_enter Tryz.func69,Tryz.ntmps69
    go_upto_region 2 with (go_at_call 124;refine HP.out.mono ?_;rintro e w1 h;obtain⟨a1,c1,rfl,hs,hb⟩:=h.got;obtain⟨lb,lo,c2,ka,kc,xA,xc,hv1,g0,g1,g2,hx,hk⟩:=ns1 hs;injection hv1 with e1 e2 e3;subst e1;clear e2 e3 h;have HK:=iH hk;have HB:=iH hb;clear hs hb hx hk)
    clear g1 g2
    go_wp2_with fail
    go_ret2
    exact ValOut.no0 R.out HB.out
  ·have R:Hid (qa B tag z=.none):=iH (by unfold qa;rw [hp];exact X5 h1)
   have t1:((l.len:Int) != 1)=true:=by simp;omega
   clear hp h1
   go_enter Tryz.func69,Tryz.ntmps69
   go_wp2_with(go_at_call 124;refine HP.out.mono ?_;rintro e w1 h;obtain⟨a1,c1,rfl,_,hb⟩:=h.got;have HB:=iH hb;clear hb h)
   go_ret2
   exact ValOut.no0 R.out HB.out
end Go.Proofs.YtalmmiojbmpmiaaGreatDoor
