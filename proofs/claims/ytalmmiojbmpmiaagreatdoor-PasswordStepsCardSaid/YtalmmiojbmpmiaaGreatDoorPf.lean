/- Layer 2: the shortest form of a length, the reference's side; Layer 2: the walks of check, both sides -/
import Derived.BigQuiet
import Derived.Deep.Cut
import Derived.Test.YtalmmiojbmpmiaaGreatDoorPe
set_option linter.all false
set_option maxHeartbeats 1000000
namespace Go.Proofs.YtalmmiojbmpmiaaGreatDoor
open Go.RowKit Go.Deep
def qM(n:Nat):List UInt8:=if n<=127 then [ofI n]else if n<=255 then [129,ofI n]else [130,ofI ((n:Int) / 256),ofI n]
theorem yq(w:World)(l:List UInt8)(t:TypeId)(hl:l.length<=140737488355328)(c:Array Value)(hc:c=(l.map U8).toArray):
 BsS (w.alloc (.cells c t)) (New w (w.alloc (.cells c t))) (.slice (some ⟨w.heap.size,0,none⟩) l.length l.length) l:=by
 subst hc
 refine⟨_,_,rfl,Nat.le_refl _,by omega,hl,fun _=>⟨_,_,rfl,⟨Nat.le_refl _,by simp⟩,fun j hj=> ?_⟩⟩
 rw [Nat.zero_add,cell_of_row _ _ _ _ _ _ (iN)]
 exact(List.getElem?_toArray ..).trans (jK l j hj)
theorem kJ(n:Nat)(hn:n<=65535)(w:World):Calls Tryz.prog 195 #[.int .i64 n] w fun e w'=>∃v',e=.returned v'/\BsS w' (New w w') v' (qM n)/\Below w.heap.size w w':=by
 by_cases h1:n<=127
 ·have d1:decide ((n:Int)<=127)=true:=decide_eq_true (by omega)
  have E:Hid (qM n= [ofI n]):=iT h1
  clear h1 hn
  go_enter Tryz.func195,Tryz.ntmps195
  go_wp2_with fail
  go_ret
  rw [E.out]
  exact⟨_,rfl,yq w [ofI n] _ (by simp) _ rfl,iA⟩
 ·have d1:decide ((n:Int)<=127)=false:=decide_eq_false (by omega)
  by_cases h2:n<=255
  ·have d2:decide ((n:Int)<=255)=true:=decide_eq_true (by omega)
   have E:Hid (qM n= [129,ofI n]):=by unfold Hid qM;rw [iF h1,iT h2]
   clear h1 h2 hn
   go_enter Tryz.func195,Tryz.ntmps195
   go_wp2_with fail
   go_ret
   rw [E.out]
   exact⟨_,rfl,yq w [129,ofI n] _ (by simp) _ rfl,iA⟩
  ·have d2:decide ((n:Int)<=255)=false:=decide_eq_false (by omega)
   have E:Hid (qM n= [130,ofI ((n:Int) / 256),ofI n]):=by unfold Hid qM;rw [iF h1,iF h2]
   clear h1 h2 hn
   go_enter Tryz.func195,Tryz.ntmps195
   go_wp2_with fail
   go_ret
   rw [E.out]
   exact⟨_,rfl,yq w [130,ofI ((n:Int) / 256),ofI n] _ (by simp) _ rfl,iA⟩
abbrev IntBox(w:World)(p:Nat)(c:Int):Prop:=w.heap[p]?=some (.cells #[.int .i64 c] 3 (0,0))
def Xd(w:World)(p:Nat)(r c n:Int)(w':World):Prop:=(∃c',IntBox w' p c'/\(r=0->c'=c+n))/\w.grownBy w' (some p)
theorem BsS.form2{w:World}{S:Nat->Prop}{v:Value}{l:List UInt8}(h:BsS w S v l):∃A c,v=.slice A l.length c:=by
 obtain⟨a,c,hv,_⟩:=h;exact⟨a,c,hv⟩
theorem NsAt.zero{w:World}{S:Nat->Prop}{L:Ns}{a:Option Addr}{b off:Nat}{X:Prop}(h:0<L.len->a=some ⟨b,off,none⟩/\X/\NsAt w S L b off):NsAt w S L b off:=by
 cases L with
 |nil=>trivial
 |cons t v k r=>exact(h (by simp [Ns.len])).2.2
theorem NsAt.grown{w w':World}{p:Nat}{L:Ns}{b off:Nat}(h:NsAt w (fun b=>b<w.heap.size/\b≠p) L b off)(hb:b≠p)(hl:b<w.heap.size)(hg:w.grownBy w' (some p)):NsAt w' (fun b=>b<w'.heap.size/\b≠p) L b off:=
 NsAt.keep (fun b hs hl=>⟨hg.block b hl (by intro e;injection e;exact hs.2 (by omega)),⟨iZ hl hg.size,hs.2⟩⟩) L b off ⟨hl,hb⟩ hl h
theorem NsS.grown{w w':World}{p:Nat}{L:Ns}{v:Value}(h:NsS w (fun b=>b<w.heap.size/\b≠p) v L)(hg:w.grownBy w' (some p)):NsS w' (fun b=>b<w'.heap.size/\b≠p) v L:=
 h.keep (fun b hs hl=>⟨hg.block b hl (by intro e;injection e;exact hs.2 (by omega)),⟨iZ hl hg.size,hs.2⟩⟩)
section
variable{w:World}{p:Nat}{c:Int}(h:IntBox w p c)
include w p c h
theorem IntBox.cell:w.cell? ⟨p,0,none⟩=some (.int .i64 c):=by rw [cell_of_row _ _ _ _ _ _ h]<;>rfl
theorem IntBox.lt:p<w.heap.size:=(iG h)
theorem IntBox.alloc(o:Obj):IntBox (w.alloc o) p c:=(Below.heap_alloc w o p h.lt).trans h
theorem IntBox.set(n:Int):IntBox (w.setCell ⟨p,0,none⟩ (.int .i64 n)) p n:=
 one_setCell h
end
theorem zN(t:Int)(v:List UInt8)(k r:Ns)(d:Nat)(h1:xu t=true)(h2:¬((kr t=false/\0<k.len)\/(kr t=true/\0<v.length))):(Ns.cons t v k r).chk d=if 8<d then 7 else if k.chk (d+1)=0 then r.chk d else k.chk (d+1):=by
 rw [Ns.chk,iF (by rw [h1];decide),iF h2]
theorem qE{w wr:World}{p:Nat}{cc:Int}(hg:w.grownBy wr (some p))(hb:IntBox wr p cc)(o:Obj):
 IntBox ((wr.setCell ⟨p,0,none⟩ (.int .i64 (cc+1))).alloc o) p (cc+1)/\w.grownBy ((wr.setCell ⟨p,0,none⟩ (.int .i64 (cc+1))).alloc o) (some p):=
 ⟨(hb.set _).alloc o,jQ (j7 hg (.inl rfl) _) o⟩
theorem xB{w wr:World}{p:Nat}{cc r c n:Int}(hg:w.grownBy wr (some p))(hb:IntBox wr p cc)(hr:r≠0)(o:Obj):Xd w p r c n ((wr.setCell ⟨p,0,none⟩ (.int .i64 (cc+1))).alloc o):=
 ⟨⟨_,(qE hg hb o).1,fun h=>absurd h hr⟩,(qE hg hb o).2⟩
theorem XH{wr:World}{p:Nat}{_t cc:Int}{ka:Option Addr}{kc:Nat}{k:Ns}(h6:k.len<=kc)(h7:kc<=maxLen)(h8:k.len<=2513169434843)(h9:0<k.len->∃b' off',ka=some ⟨b',off',none⟩/\(b'<wr.heap.size/\b'≠p)/\b'<wr.heap.size/\NsAt wr (fun b=>b<wr.heap.size/\b≠p) k b' off')(hb:IntBox wr p cc)(o:Obj):
 NsS ((wr.setCell ⟨p,0,none⟩ (.int .i64 (cc+1))).alloc o) (fun b=>b<((wr.setCell ⟨p,0,none⟩ (.int .i64 (cc+1))).alloc o).heap.size/\b≠p) (.slice ka k.len kc) k:=
 NsS.grown ⟨ka,kc,rfl,h6,h7,h8,h9⟩ (qE (World.grownBy.refl wr _) hb o).2
theorem NsAt.keep'{wr w2:World}{p:Nat}{cc:Int}{r:Ns}{b off:Nat}(h:NsAt wr (fun b=>b<wr.heap.size/\b≠p) r b off)(hbp:b≠p)(hbl:b<wr.heap.size)(hb:IntBox wr p cc)(o:Obj)(hg:((wr.setCell ⟨p,0,none⟩ (.int .i64 (cc+1))).alloc o).grownBy w2 (some p)):NsAt w2 (fun b=>b<w2.heap.size/\b≠p) r b off:=
 h.grown hbp hbl (ky (qE (World.grownBy.refl wr _) hb o).2 hg)
theorem Vu(n:Nat):∀(L:Ns) (v:Value) (d:Nat) (c:Int) (p:Nat) (w:World),L.all<=n->NsS w (fun b=>b<w.heap.size/\b≠p) v L->d<=9->0<=c->c+L.all<=1000000000000->IntBox w p c->
 Calls Tryz.prog 165 #[v,.int .i64 d,.pointer (some ⟨p,0,none⟩)] w fun e w'=>e=.returned (.int .i64 (L.chk d))/\Xd w p (L.chk d) c L.all w':=by
 induction n with
 |zero=>
  intro L v d c p w hn hv hd hc0 hc1 hp
  cases L with
  |cons t v k r=>simp only [Ns.all]at hn;omega
  |nil=>
   obtain⟨a,cap,rfl,hlc,hcap,hlen,hcells⟩:=hv
   clear hcells
   simp only [Ns.len]at*
   have Hp:=iH hp;clear hp
   go_enter Tryz.func165,Tryz.ntmps165
   go_wp2_with fail
   refine wp_loop_rounds 1 ?_
   rw [rounds_succ]
   go_wp2
   go_ret
   exact⟨rfl,⟨_,Hp.out,fun _=>by simp [Ns.all]⟩,World.grownBy.refl w _⟩
 |succ n ih=>
  intro L v d c p w hn hv hd hc0 hc1 hp
  obtain⟨a,cap,rfl,hlc,hcap,hlen,hcells⟩:=hv
  have hcap':cap<=9223372036854775807:=hcap
  obtain⟨b,off,hb⟩:∃b off,Hid (0<L.len->a=some ⟨b,off,none⟩/\(b<w.heap.size/\b≠p)/\NsAt w (fun b=>b<w.heap.size/\b≠p) L b off):=by
   rcases Nat.eq_zero_or_pos L.len with h0|h0
   ·exact⟨0,0,fun h=>by omega⟩
   ·obtain⟨b,off,h1,h2,h3,h4⟩:=hcells h0
    exact⟨b,off,fun _=>⟨h1,h2,h4⟩⟩
  clear hcells hcap
  have Hp:=iH hp;clear hp
  go_enter Tryz.func165,Tryz.ntmps165
  go_wp2_with fail
  go_loopg [13] L.len (fun m i wr=>∃(R:Ns) (j:Nat) (cc:Int),R.len=m/\j+R.len=L.len/\i=.int .i64 j/\Hid (R.chk d=L.chk d)/\Hid (cc+R.all=c+L.all)/\0<=cc/\R.all<=n+1/\
   NsAt wr (fun b=>b<wr.heap.size/\b≠p) R b (off+j*3)/\IntBox wr p cc/\w.grownBy wr (some p))
  case atStart=>
   exact⟨L,0,c,rfl,by omega,rfl,rfl,rfl,hc0,hn,by rw [Nat.zero_mul,Nat.add_zero];exact NsAt.zero hb.out,Hp.out,World.grownBy.refl w _⟩
  case round=>
   obtain⟨R,j,cc,rfl,hj,rfl,hchk,hcc,hcc0,hRn,hat,hpb,hg⟩:=hrel
   cases R with
   |nil=>
    simp only [Ns.len,Nat.add_zero]at hj
    subst hj
    go_wp2_with fail
    go_ret
    have e:L.chk d=0:=hchk.out.symm
    refine⟨by rw [e]<;>rfl,⟨_,hpb,fun _=> ?_⟩,hg⟩
    have:=hcc.out
    simp only [Ns.all]at this
    omega
   |cons t v k r=>
    obtain⟨h1,h2,⟨x,h3,h4⟩,⟨ka,kc,h5,h6,h7,h8x,h9⟩,h10⟩:=hat
    simp only [Ns.len]at hj
    simp only [Ns.all]at hRn
    have hcc':=hcc.out
    simp only [Ns.all]at hcc'
    have hlt:(j:Int)<L.len:=by omega
    obtain⟨rfl,⟨hbl,hbp⟩,_⟩:=hb.out (by omega)
    have hbl':b<wr.heap.size:=iZ hbl hg.size
    have hpl:=hpb.lt
    have hpc:=hpb.cell
    have hpf:wr.frozen? ⟨p,0,none⟩=false:=free_of_one hpb
    have Hpb:=iH hpb;clear hpb
    obtain⟨xa,xc,rfl⟩:=h4.form2
    have H4:=iH h4;have H9:=iH h9;have H10:=iH h10;have Hg:=iH hg
    clear h4 h9 h10 hg
    have Hv:=fun w=>iH (Ka t h2 w)
    have Hc:=fun w=>iH (zP t h2 w)
    cases et:xu t with
    |false=>
     rw [et]at Hv
     have E:Hid (L.chk d=4):=by rw [<-hchk.out,Ns.chk,iT et]<;>rfl
     clear et
     go_wp2_with(first|(go_at_call 180;refine(Hv _).out.mono ?_;rintro e w' ⟨rfl,rfl⟩)|(go_at_call 179;refine(Hc _).out.mono ?_;rintro e w' ⟨rfl,rfl⟩))
     go_ret
     exact⟨by rw [E.out]<;>rfl,by rw [E.out];exact xB (r:=4) Hg.out Hpb.out (by decide) _⟩
    |true=>
     rw [et]at Hv
     cases ec:kr t with
     |false=>
      rw [ec]at Hc
      by_cases hk:0<k.len
      ·have E:Hid (L.chk d=1):=by rw [<-hchk.out,Ns.chk,iF (by rw [et];decide),iT (.inl ⟨ec,hk⟩)]<;>rfl
       clear et ec
       go_wp2_with(first|(go_at_call 180;refine(Hv _).out.mono ?_;rintro e w' ⟨rfl,rfl⟩)|(go_at_call 179;refine(Hc _).out.mono ?_;rintro e w' ⟨rfl,rfl⟩))
       go_ret
       exact⟨by rw [E.out]<;>rfl,by rw [E.out];exact xB (r:=1) Hg.out Hpb.out (by decide) _⟩
      ·have B:=zN t v k r d et (by rw [ec];simp;omega)
       rw [hchk.out]at B
       clear et ec
       by_cases h8:8<d
       ·have E:Hid (L.chk d=7):=by rw [B,iT h8]<;>rfl
        clear B
        go_wp2_with(first|(go_at_call 180;refine(Hv _).out.mono ?_;rintro e w' ⟨rfl,rfl⟩)|(go_at_call 179;refine(Hc _).out.mono ?_;rintro e w' ⟨rfl,rfl⟩))
        go_ret
        exact⟨by rw [E.out]<;>rfl,by rw [E.out];exact xB (r:=7) Hg.out Hpb.out (by decide) _⟩
       ·rw [iF h8]at B
        obtain⟨HI,HG⟩:=qE Hg.out Hpb.out (.cells #[.int .i64 t,.slice xa v.length xc,.slice ka k.len kc] 66)
        have HB:=XH (p:=p) (_t:=t) (cc:=cc) h6 h7 h8x H9.out Hpb.out (.cells #[.int .i64 t,.slice xa v.length xc,.slice ka k.len kc] 66)
        have HK:=ih k (.slice ka k.len kc) (d+1) (cc+1) p _ (by omega) HB (by omega) (by omega) (by omega) HI
        rw [show((d+1:Nat):Int)=(d:Int)+1 from rfl]at HK
        have HK:=iH HK;have HI:=iH HI;have HG:=iH HG;have HB:=iH HB
        by_cases hk0:k.chk (d+1)=0
        ·rw [iT hk0]at B
         rw [hk0]at HK
         have B:=iH B;clear hk0
         go_wp2_with(first|(go_at_call 180;refine(Hv _).out.mono ?_;rintro e w' ⟨rfl,rfl⟩)|(go_at_call 179;refine(Hc _).out.mono ?_;rintro e w' ⟨rfl,rfl⟩)|(go_at_call 165;refine HK.out.mono ?_;rintro e w2 ⟨rfl,hpost⟩;have hpost:=iH hpost))
         go_roundg r.len
         case measure=>simp [Ns.len]
         case rel=>
          obtain⟨⟨c2,hb2,hc2⟩,hg2⟩:=hpost.out
          have hc2':=hc2 rfl
          refine⟨r,j+1,c2,rfl,by omega,by go_num,B.out.symm,?_,by omega,by omega,?_,hb2,ky HG.out hg2⟩
          ·show _=_
           omega
          ·rw [Nat.add_mul,<-Nat.add_assoc]
           exact(NsAt.keep' H10.out hbp hbl' Hpb.out _ hg2)
        ·rw [iF hk0]at B
         have e0:((k.chk (d+1)) != 0)=true:=by simp [hk0]
         have B:=iH B;have Hk0:=iH hk0;clear hk0
         go_wp2_with(first|(go_at_call 180;refine(Hv _).out.mono ?_;rintro e w' ⟨rfl,rfl⟩)|(go_at_call 179;refine(Hc _).out.mono ?_;rintro e w' ⟨rfl,rfl⟩)|(go_at_call 165;refine HK.out.mono ?_;rintro e w2 ⟨rfl,hpost⟩;have hpost:=iH hpost))
         go_ret
         obtain⟨⟨c2,hb2,hc2⟩,hg2⟩:=hpost.out
         exact⟨by rw [B.out]<;>rfl,⟨_,hb2,fun h=>absurd (by rw [<-B.out];exact h) Hk0.out⟩,ky HG.out hg2⟩
     |true=>
      rw [ec]at Hc
      by_cases hk:0<v.length
      ·have E:Hid (L.chk d=1):=by rw [<-hchk.out,Ns.chk,iF (by rw [et];decide),iT (.inr ⟨ec,hk⟩)]<;>rfl
       clear et ec
       go_wp2_with(first|(go_at_call 180;refine(Hv _).out.mono ?_;rintro e w' ⟨rfl,rfl⟩)|(go_at_call 179;refine(Hc _).out.mono ?_;rintro e w' ⟨rfl,rfl⟩))
       go_ret
       exact⟨by rw [E.out]<;>rfl,by rw [E.out];exact xB (r:=1) Hg.out Hpb.out (by decide) _⟩
      ·have B:=zN t v k r d et (by rw [ec];simp;exact List.eq_nil_of_length_eq_zero (by omega))
       rw [hchk.out]at B
       clear et ec
       by_cases h8:8<d
       ·have E:Hid (L.chk d=7):=by rw [B,iT h8]<;>rfl
        clear B
        go_wp2_with(first|(go_at_call 180;refine(Hv _).out.mono ?_;rintro e w' ⟨rfl,rfl⟩)|(go_at_call 179;refine(Hc _).out.mono ?_;rintro e w' ⟨rfl,rfl⟩))
        go_ret
        exact⟨by rw [E.out]<;>rfl,by rw [E.out];exact xB (r:=7) Hg.out Hpb.out (by decide) _⟩
       ·rw [iF h8]at B
        obtain⟨HI,HG⟩:=qE Hg.out Hpb.out (.cells #[.int .i64 t,.slice xa v.length xc,.slice ka k.len kc] 66)
        have HB:=XH (p:=p) (_t:=t) (cc:=cc) h6 h7 h8x H9.out Hpb.out (.cells #[.int .i64 t,.slice xa v.length xc,.slice ka k.len kc] 66)
        have HK:=ih k (.slice ka k.len kc) (d+1) (cc+1) p _ (by omega) HB (by omega) (by omega) (by omega) HI
        rw [show((d+1:Nat):Int)=(d:Int)+1 from rfl]at HK
        have HK:=iH HK;have HI:=iH HI;have HG:=iH HG;have HB:=iH HB
        by_cases hk0:k.chk (d+1)=0
        ·rw [iT hk0]at B
         rw [hk0]at HK
         have B:=iH B;clear hk0
         go_wp2_with(first|(go_at_call 180;refine(Hv _).out.mono ?_;rintro e w' ⟨rfl,rfl⟩)|(go_at_call 179;refine(Hc _).out.mono ?_;rintro e w' ⟨rfl,rfl⟩)|(go_at_call 165;refine HK.out.mono ?_;rintro e w2 ⟨rfl,hpost⟩;have hpost:=iH hpost))
         go_roundg r.len
         case measure=>simp [Ns.len]
         case rel=>
          obtain⟨⟨c2,hb2,hc2⟩,hg2⟩:=hpost.out
          have hc2':=hc2 rfl
          refine⟨r,j+1,c2,rfl,by omega,by go_num,B.out.symm,?_,by omega,by omega,?_,hb2,ky HG.out hg2⟩
          ·show _=_
           omega
          ·rw [Nat.add_mul,<-Nat.add_assoc]
           exact(NsAt.keep' H10.out hbp hbl' Hpb.out _ hg2)
        ·rw [iF hk0]at B
         have e0:((k.chk (d+1)) != 0)=true:=by simp [hk0]
         have B:=iH B;have Hk0:=iH hk0;clear hk0
         go_wp2_with(first|(go_at_call 180;refine(Hv _).out.mono ?_;rintro e w' ⟨rfl,rfl⟩)|(go_at_call 179;refine(Hc _).out.mono ?_;rintro e w' ⟨rfl,rfl⟩)|(go_at_call 165;refine HK.out.mono ?_;rintro e w2 ⟨rfl,hpost⟩;have hpost:=iH hpost))
         go_ret
         obtain⟨⟨c2,hb2,hc2⟩,hg2⟩:=hpost.out
         exact⟨by rw [B.out]<;>rfl,⟨_,hb2,fun h=>absurd (by rw [<-B.out];exact h) Hk0.out⟩,ky HG.out hg2⟩
end Go.Proofs.YtalmmiojbmpmiaaGreatDoor
