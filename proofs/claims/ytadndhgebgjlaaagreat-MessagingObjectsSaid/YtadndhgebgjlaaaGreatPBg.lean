/- Layer 2: the walks of the reference's check and Count; Layer 2: the walk of the reference's Count -/
import Derived.Test.YtadndhgebgjlaaaGreatPg
set_option linter.all false
set_option maxRecDepth 100000
set_option maxHeartbeats 2000000
namespace Go.Proofs.YtadndhgebgjlaaaGreat
open Go.RowKit Go.Deep
theorem ms{P:Prop}(h:P:=by
 go_wp2_with(first|(go_at_call 94;refine(Hv _).out.mono ?_;rintro e w' ⟨rfl,rfl⟩)|(go_at_call 95;refine(Hc _).out.mono ?_;rintro e w' ⟨rfl,rfl⟩))
 go_ret
 exact⟨by rw [E.out]<;>rfl,HA.out⟩):P:=h
theorem mT{P:Prop}(h:P:=by
 rcases Nat.eq_zero_or_pos L.len with h0|h0
 ·exact⟨0,0,fun h=>by omega⟩
 ·obtain⟨b,off,h1,h2,h3,h4⟩:=hcells h0
  exact⟨b,off,fun _=>⟨h1,⟨h2,h3⟩,h4⟩⟩):P:=h
theorem m11{P:Prop}(h:P:=by
 clear ec hf
 go_wp2_with(first|(go_at_call 94;refine(Hv _).out.mono ?_;rintro e w' ⟨rfl,rfl⟩)|(go_at_call 95;refine(Hc _).out.mono ?_;rintro e w' ⟨rfl,rfl⟩)|(go_at_call 66;refine(HK.out (by omega)).mono ?_;rintro e w2 ⟨rfl,hbw⟩;have HW:=iH hbw;clear hbw))
 go_roundg r.len
 case measure=>simp [Ns.len]
 case rel=>
  obtain⟨g1,g2⟩:=H10.out _ HW.out
  exact⟨r,j+1,rfl,by omega,by go_num,B.out.symm,by omega,by rw [Nat.add_mul,<-Nat.add_assoc];exact g1,g2⟩):P:=h
theorem m19{P:Prop}(h:P:=by
 clear ec hf
 go_wp2_with(first|(go_at_call 94;refine(Hv _).out.mono ?_;rintro e w' ⟨rfl,rfl⟩)|(go_at_call 95;refine(Hc _).out.mono ?_;rintro e w' ⟨rfl,rfl⟩)|(go_at_call 66;refine(HK.out (by omega)).mono ?_;rintro e w2 ⟨rfl,hbw⟩;have HW:=iH hbw;clear hbw))
 go_ret
 exact⟨by rw [B.out]<;>rfl,(H10.out _ HW.out).2⟩):P:=h
theorem NsAt.below{w w':World}{S:Nat->Prop}{l:Ns}{b off:Nat}(h:NsAt w S l b off)(hs:S b)(hl:b<w.heap.size)(hb:Below w.heap.size w w'):NsAt w' S l b off:=
 NsAt.keep (fun i hi hl=>⟨hb.block i hl,hi⟩) l b off hs hl h
theorem NsS.below{w w':World}{S:Nat->Prop}{v:Value}{l:Ns}(h:NsS w S v l)(hb:Below w.heap.size w w'):NsS w' S v l:=
 h.keep fun b hs hl=>⟨hb.block b hl,hs⟩
theorem Ur(w:World)(x y z:Value)(t:TypeId):(w.alloc (.cells #[x,y,z] t)).cell? ⟨w.heap.size,0,none⟩=some x/\(w.alloc (.cells #[x,y,z] t)).cell? ⟨w.heap.size,1,none⟩=some y/\(w.alloc (.cells #[x,y,z] t)).cell? ⟨w.heap.size,2,none⟩=some z:=by
 refine⟨?_,?_,?_⟩<;>(rw [cell_of_row _ _ _ _ _ _ (iN)]<;>rfl)
theorem UC(n:Nat):∀(L:Ns) (v:Value) (d:Nat) (S:Nat->Prop) (w:World),L.all<=n->NsS w S v L->d<=9->
 Calls Tryz.prog 66 #[v,.int .i64 d] w fun e w'=>e=.returned (.int .i64 (L.chk d))/\Below w.heap.size w w':=by
 induction n using Nat.strongRecOn with
 |ind n ih=>
  intro L v d S w hn hv hd
  obtain⟨a,cap,rfl,hlc,hcap,hlen,hcells⟩:=hv
  have hcap':cap<=9223372036854775807:=hcap
  obtain⟨b,off,hb⟩:∃b off,Hid (0<L.len->a=some ⟨b,off,none⟩/\(S b/\b<w.heap.size)/\NsAt w S L b off):=by
   exact mT
  clear hcells hcap
  go_enter Tryz.func66,Tryz.ntmps66
  go_wp2_with fail
  go_loopg [5] L.len (fun m i wr=>∃(R:Ns) (j:Nat),R.len=m/\j+R.len=L.len/\i=.int .i64 j/\Hid (R.chk d=L.chk d)/\R.all<=n/\
   NsAt wr S R b (off+j*3)/\Below w.heap.size w wr)
  case atStart=>
   exact⟨L,0,rfl,by omega,rfl,rfl,hn,by rw [Nat.zero_mul,Nat.add_zero];exact NsAt.zero hb.out,Below.refl _ _⟩
  case round=>
   obtain⟨R,j,rfl,hj,rfl,hchk,hRn,hat,hg⟩:=hrel
   cases R with
   |nil=>
    simp only [Ns.len,Nat.add_zero]at hj
    subst hj
    have e:Hid (L.chk d=0):=hchk.out.symm
    have Hg:=iH hg
    clear hchk hat hg
    go_wp2_with fail
    go_ret
    exact⟨by rw [e.out]<;>rfl,Hg.out⟩
   |cons t v k r=>
    obtain⟨h1,h2,⟨x,h3,h4⟩,⟨ka,kc,h5,h6,h7,h8x,h9⟩,h10⟩:=hat
    simp only [Ns.len]at hj
    simp only [Ns.all]at hRn
    have hlt:(j:Int)<L.len:=by omega
    obtain⟨rfl,⟨hbS,hbl⟩,_⟩:=hb.out (by omega)
    have hbl':b<wr.heap.size:=iZ hbl hg.size
    obtain⟨xa,xc,rfl⟩:=h4.form2
    have hA:Below w.heap.size w (wr.alloc (.cells #[.int .i64 t,.slice xa v.length xc,.slice ka k.len kc] 61)):=hg.alloc hg.size _
    have hB:Below wr.heap.size wr (wr.alloc (.cells #[.int .i64 t,.slice xa v.length xc,.slice ka k.len kc] 61)):=iA
    obtain⟨n0,n1,n2⟩:=Ur wr (.int .i64 t) (.slice xa v.length xc) (.slice ka k.len kc) 61
    have hK:=ih k.all (by omega) k (.slice ka k.len kc) (d+1) S _ iL (NsS.below (w:=wr) ⟨ka,kc,rfl,h6,h7,h8x,h9⟩ hB)
    rw [show((d+1:Nat):Int)=(d:Int)+1 from rfl]at hK
    have H10:Hid (∀w2,Below (wr.alloc (.cells #[.int .i64 t,.slice xa v.length xc,.slice ka k.len kc] 61)).heap.size (wr.alloc (.cells #[.int .i64 t,.slice xa v.length xc,.slice ka k.len kc] 61)) w2->NsAt w2 S r b (off+j*3+3)/\Below w.heap.size w w2):=
     fun w2 h=>⟨(h10.below hbS hbl' hB).below hbS (by simp;omega) h,hA.trans (h.mono hA.size)⟩
    have HA:=iH hA;have HK:=iH hK
    have Hv:=fun w=>iH (J4 t h2 w)
    have Hc:=fun w=>iH (yw t h2 w)
    clear h4 h9 h10 hg hA hB hK ih
    cases et:qX t with
    |false=>
     rw [et]at Hv
     have E:Hid (L.chk d=4):=by rw [<-hchk.out,Ns.chk,iT et]<;>rfl
     clear et hchk
     exact ms
    |true=>
     rw [et]at Hv
     by_cases hf:(jY t=false/\0<k.len)\/(jY t=true/\0<v.length)
     ·have E:Hid (L.chk d=1):=by rw [<-hchk.out,Ns.chk,iF (by rw [et];decide),iT hf]<;>rfl
      clear et hchk
      rcases hf with ⟨ec,hk⟩|⟨ec,hk⟩
      ·rw [ec]at Hc
       have hk':decide ((k.len:Int)>0)=true:=by simpa using hk
       clear ec
       exact ms
      ·rw [ec]at Hc
       have hk':decide ((v.length:Int)>0)=true:=by simpa using hk
       clear ec
       exact ms
     ·have B:=y6 t v k r d et hf
      rw [hchk.out]at B
      by_cases h8:8<d
      ·have E:Hid (L.chk d=7):=by rw [B,iT h8]<;>rfl
       clear B et hchk
       cases ec:jY t with
       |false=>
        rw [ec]at Hc
        have hk:¬0<k.len:=fun h=>hf (.inl ⟨ec,h⟩)
        clear ec hf
        exact ms
       |true=>
        rw [ec]at Hc
        have hk:¬0<v.length:=fun h=>hf (.inr ⟨ec,h⟩)
        clear ec hf
        exact ms
      ·rw [iF h8]at B
       by_cases hk0:k.chk (d+1)=0
       ·rw [iT hk0]at B
        rw [hk0]at HK
        have B:=iH B
        clear et hchk hk0
        cases ec:jY t with
        |false=>
         rw [ec]at Hc
         have hk:¬0<k.len:=fun h=>hf (.inl ⟨ec,h⟩)
         exact m11
        |true=>
         rw [ec]at Hc
         have hk:¬0<v.length:=fun h=>hf (.inr ⟨ec,h⟩)
         exact m11
       ·rw [iF hk0]at B
        have e0:((k.chk (d+1)) != 0)=true:=by simp [hk0]
        have B:=iH B
        clear et hchk hk0
        cases ec:jY t with
        |false=>
         rw [ec]at Hc
         have hk:¬0<k.len:=fun h=>hf (.inl ⟨ec,h⟩)
         exact m19
        |true=>
         rw [ec]at Hc
         have hk:¬0<v.length:=fun h=>hf (.inr ⟨ec,h⟩)
         exact m19
def Ns.cnt:Ns->Nat->Nat
 |.nil,n=>n
 |.cons _ _ k r,n=>if n<=256 then r.cnt (n+(1+k.cnt 0))else n
theorem Ns.cnt_le(l:Ns):∀n,l.cnt n<=n+l.all:=by
 induction l with
 |nil=>intro n;simp [Ns.cnt,Ns.all]
 |cons t v k r ihk ihr=>
  intro n
  simp only [Ns.cnt,Ns.all]
  split
  ·have h1:=ihr (n+(1+k.cnt 0));have h2:=ihk 0;omega
  ·omega
theorem Ns.cnt_ge(l:Ns):∀n,n<=l.cnt n:=by
 induction l with
 |nil=>intro n;simp [Ns.cnt]
 |cons t v k r ihk ihr=>
  intro n
  simp only [Ns.cnt]
  split
  ·have h1:=ihr (n+(1+k.cnt 0));omega
  ·omega
theorem Ns.cnt_all(l:Ns):∀n,(n+l.all<=256->l.cnt n=n+l.all)/\(256<n+l.all->256<l.cnt n):=by
 induction l with
 |nil=>intro n;simp [Ns.cnt,Ns.all]
 |cons t v k r ihk ihr=>
  intro n
  simp only [Ns.cnt,Ns.all]
  obtain⟨a1,a2⟩:=ihk 0
  obtain⟨b1,b2⟩:=ihr (n+(1+k.cnt 0))
  have c1:=r.cnt_ge (n+(1+k.cnt 0))
  split
  ·refine⟨fun h=> ?_,fun h=> ?_⟩
   ·have:=a1 (by omega);rw [b1 (by omega)];omega
   ·rcases Nat.lt_or_ge 256 (0+k.all)with h'|h'
    ·have:=a2 h';omega
    ·have:=a1 h';exact b2 (by omega)
  ·exact⟨fun h=>by omega,fun h=>by omega⟩
theorem Ns.cnt_len(l:Ns):l.len<=l.all:=by
 induction l with
 |nil=>simp [Ns.len,Ns.all]
 |cons t v k r _ ihr=>simp only [Ns.len,Ns.all];omega
theorem Vk(n:Nat):∀(L:Ns) (v:Value) (S:Nat->Prop) (w:World),L.all<=n->n<=100000000000->NsS w S v L->
 Calls Tryz.prog 67 #[v,.int .i64 256] w fun e w'=>e=.returned (.int .i64 (L.cnt 0))/\w'=w:=by
 induction n using Nat.strongRecOn with
 |ind n ih=>
  intro L v S w hn hn2 hv
  obtain⟨a,cap,rfl,hlc,hcap,hlen,hcells⟩:=hv
  have hcap':cap<=9223372036854775807:=hcap
  obtain⟨b,off,hb⟩:∃b off,Hid (0<L.len->a=some ⟨b,off,none⟩/\(S b/\b<w.heap.size)/\NsAt w S L b off):=by
   exact mT
  clear hcells hcap
  go_enter Tryz.func67,Tryz.ntmps67
  go_wp2_with fail
  go_loopg [5,6] L.len (fun m c i wr=>∃(R:Ns) (j q:Nat),R.len=m/\j+R.len=L.len/\i=.int .i64 j/\c=.int .i64 q/\Hid (R.cnt q=L.cnt 0)/\q+R.all<=L.all/\NsAt w S R b (off+j*3)/\wr=w)
  case atStart=>
   exact⟨L,0,0,rfl,by omega,rfl,rfl,rfl,by omega,by rw [Nat.zero_mul,Nat.add_zero];exact NsAt.zero hb.out,rfl⟩
  case round=>
   obtain⟨R,j,q,rfl,hj,rfl,rfl,hcnt,hRn,hat,rfl⟩:=hrel
   cases R with
   |nil=>
    simp only [Ns.len,Nat.add_zero]at hj
    subst hj
    have e:Hid (L.cnt 0=q):=hcnt.out.symm
    clear hcnt hat ih
    go_wp2_with fail
    go_ret
    exact⟨by rw [e.out]<;>rfl,rfl⟩
   |cons t v k r=>
    obtain⟨h1,h2,⟨x,h3,h4⟩,⟨ka,kc,h5,h6,h7,h8x,h9⟩,h10⟩:=hat
    simp only [Ns.len]at hj
    simp only [Ns.all]at hRn
    have hlt:(j:Int)<L.len:=by omega
    obtain⟨rfl,⟨hbS,hbl⟩,_⟩:=hb.out (by omega)
    have hK:=ih k.all (by omega) k (.slice ka k.len kc) S wr iL (by omega) ⟨ka,kc,rfl,h6,h7,h8x,h9⟩
    have hkc:=k.cnt_le 0
    have H10:=iH h10;have HK:=iH hK
    clear h4 h9 h10 hK ih
    by_cases hq:q<=256
    ·have B:Hid (r.cnt (q+(1+k.cnt 0))=L.cnt 0):=by show _=_;rw [<-hcnt.out,Ns.cnt,iT hq]
     clear hcnt
     go_wp2_with(go_at_call 67;refine HK.out.mono ?_;rintro e w2 ⟨rfl,rfl⟩)
     go_roundg r.len
     case measure=>simp [Ns.len]
     case rel=>
      exact⟨r,j+1,q+(1+k.cnt 0),rfl,by omega,by go_num,by go_num,B.out,by omega,by rw [Nat.add_mul,<-Nat.add_assoc];exact H10.out,rfl⟩
    ·have B:Hid (L.cnt 0=q):=by show _=_;rw [<-hcnt.out,Ns.cnt,iF hq]
     clear hcnt
     go_wp2_with fail
     go_ret
     exact⟨by rw [B.out]<;>rfl,rfl⟩
end Go.Proofs.YtadndhgebgjlaaaGreat
