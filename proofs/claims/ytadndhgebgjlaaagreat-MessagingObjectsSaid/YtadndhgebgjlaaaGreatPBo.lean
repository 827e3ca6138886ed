/- Layer 2: the walk of the reference's raw -/
import Derived.Test.YtadndhgebgjlaaaGreatPBg
import Derived.Test.YtadndhgebgjlaaaGreatPm
set_option linter.all false
set_option maxRecDepth 100000
set_option maxHeartbeats 4000000
namespace Go.Proofs.YtadndhgebgjlaaaGreat
open Go.RowKit Go.Deep
theorem m0m{P:Prop}(h:P:=by
 go_roundg r.len
 case measure=>simp [Ns.len]
 case rel=>
  obtain⟨g1,g2,g3,_,_⟩:=H6.out
  refine⟨r,j+1,_,rfl,by omega,by go_num,?_,by omega,by rw [Nat.add_mul,<-Nat.add_assoc];exact H10.out,g1,by omega,g3⟩
  have e:=E.out
  rw [T.out]at e
  show _=_
  rw [e,<-E6.out,<-E5.out,<-E3.out,<-E2.out]
  try simp only [List.append_assoc,List.cons_append,List.nil_append]):P:=h
theorem m0o{P:Prop}(h:P:=by
 go_roundg r.len
 case measure=>simp [Ns.len]
 case rel=>
  obtain⟨g1,g2,g3,_,_⟩:=H6.out
  refine⟨r,j+1,_,rfl,by omega,by go_num,?_,by omega,by rw [Nat.add_mul,<-Nat.add_assoc];exact H10.out,g1,by omega,g3⟩
  have e:=E.out
  rw [T.out]at e
  show _=_
  rw [e,<-E6.out,<-E5.out,<-E3.out]
  try simp only [List.append_assoc,List.cons_append,List.nil_append]):P:=h
theorem m0t{P:Prop}(h:P:=by
 obtain⟨g1,g2,g3,_,_⟩:=H6.out
 refine⟨r,j+1,_,rfl,by omega,by go_num,?_,by omega,by rw [Nat.add_mul,<-Nat.add_assoc];exact H10.out,g1,by omega,g3⟩
 have e:=E.out
 rw [T.out]at e
 show _=_
 rw [e,<-E6.out,<-E5.out,<-E3.out,<-E2.out]
 try simp only [List.append_assoc,List.cons_append,List.nil_append]):P:=h
theorem m0u{P:Prop}(h:P:=by
 obtain⟨g1,g2,g3,_,_⟩:=H6.out
 refine⟨r,j+1,_,rfl,by omega,by go_num,?_,by omega,by rw [Nat.add_mul,<-Nat.add_assoc];exact H10.out,g1,by omega,g3⟩
 have e:=E.out
 rw [T.out]at e
 show _=_
 rw [e,<-E6.out,<-E5.out,<-E3.out]
 try simp only [List.append_assoc,List.cons_append,List.nil_append]):P:=h
def j45(c:List UInt8):List UInt8:=if 4096<c.length then c.take 4097 else c
theorem yd{c:List UInt8}(h:4096<c.length):j45 c=c.take 4097:=iT h
theorem JM{c:List UInt8}(h:¬4096<c.length):j45 c=c:=iF h
def Ns.raw:Ns->List UInt8->List UInt8
 |.nil,o=>o
 |.cons t v k r,o=>if o.length<=4096 then r.raw (o++ku t++qT (j45 (if jY t then k.raw []else v)).length++j45 (if jY t then k.raw []else v))else o
theorem qz(t:Int)(v:List UInt8)(k r:Ns)(o c d:List UInt8)(h:o.length<=4096)(hc:(if jY t then k.raw []else v)=c)(hd:j45 c=d):(Ns.cons t v k r).raw o=r.raw (o++ku t++qT d.length++d):=by
 subst hd;subst hc;rw [Ns.raw,iT h]
theorem YC(t:Int)(v:List UInt8)(k r:Ns)(o:List UInt8)(h:¬o.length<=4096):(Ns.cons t v k r).raw o=o:=by
 rw [Ns.raw,iF h]
theorem qV(n:Nat):(qT n).length<=3:=by
 unfold qT;split
 ·simp
 ·split<;>simp
section
variable{w:World}{S:Nat->Prop}{A:Option Addr}{n c:Nat}{l:List UInt8}(h:BsS w S (.slice A n c) l)
include w S A n c l h
theorem BsS.head(k:Nat)(hk:k<=l.length):BsS w S (.slice A k c) (l.take k):=by
 obtain⟨a,c',hv,h1,h2,h3,h4⟩:=h
 injection hv with e1 e2 e3
 subst e1 e2 e3
 have hl:(l.take k).length=k:=by simp;omega
 refine⟨A,c,by rw [hl],by omega,h2,by omega,fun hp=> ?_⟩
 rw [hl]at hp
 obtain⟨b,off,ha,hb,hcell⟩:=h4 (by omega)
 refine⟨b,off,ha,hb,fun j hj=> ?_⟩
 rw [hl]at hj
 rw [hcell j (by omega)]
 congr 2
 unfold gb
 rw [List.getD_eq_getElem?_getD,List.getD_eq_getElem?_getD,List.getElem?_take,iT hj]
theorem BsS.capLe:l.length<=c/\c<=9223372036854775807:=by
 obtain⟨a,c',hv,h1,h2,h3,h4⟩:=h
 injection hv with e1 e2 e3
 subst e1 e2 e3
 exact⟨h1,h2⟩
end
theorem Jz{w wr:World}{oa xa:Option Addr}{oc xc:Nat}{l v:List UInt8}{b:Nat}{x:Obj}(ho:OwnB wr w.heap.size (.slice oa l.length oc) l)(hb:Below w.heap.size w wr)(hx:BsS w (·<w.heap.size) (.slice xa v.length xc) v)(hbl:b<w.heap.size)(hbx:w.heap[b]?=some x):WSt w wr (.slice oa l.length oc) l (.slice xa v.length xc) v b x:=
 ⟨ho,Beside.old (Bs.below hx hb) ho,hb,(hb.block _ hbl).trans hbx,fun e=>by have:=(ho.lt _ e).1;omega⟩
theorem Jy{w wr w1:World}{oa ca:Option Addr}{oc cc:Nat}{l c:List UInt8}{b:Nat}{x:Obj}(ho:OwnB wr w.heap.size (.slice oa l.length oc) l)(hb:Below w.heap.size w wr)(hc:BsS w1 (New wr w1) (.slice ca c.length cc) c)(hbw:Below wr.heap.size wr w1)(hbl:b<w.heap.size)(hbx:w.heap[b]?=some x):WSt w w1 (.slice oa l.length oc) l (.slice ca c.length cc) c b x:=
 ⟨q6 ho hbw,Beside.new hc ho,hb.trans (hbw.mono hb.size),((hbw.mono hb.size).block _ hbl).trans ((hb.block _ hbl).trans hbx),fun e=>by have:=(ho.lt _ e).1;omega⟩
theorem WSt.cut{w wi:World}{o:Value}{ca:Option Addr}{cc:Nat}{l c:List UInt8}{X:Nat}{x:Obj}(h:WSt w wi o l (.slice ca c.length cc) c X x)(hc:4096<c.length):WSt w wi o l (.slice ca 4097 cc) (c.take 4097) X x:=
 ⟨h.1,BsS.head h.2.1 4097 (by omega),h.2.2⟩
theorem WSt.old{w wi:World}{o cv:Value}{l c:List UInt8}{X:Nat}{x:Obj}(h:WSt w wi o l cv c X x){p:Addr}{u:Value}(hp:p.block<w.heap.size)(hu:w.cell? p=some u):wi.cell? p=some u:=(h.2.2.1.cell hp).trans hu
theorem j5v(n:Nat):∀(L:Ns) (v:Value) (w:World),L.all<=n->NsS w (·<w.heap.size) v L->
 Calls Tryz.prog 68 #[v] w fun e w'=>∃v',e=.returned v'/\BsS w' (New w w') v' (L.raw [])/\Below w.heap.size w w':=by
 induction n using Nat.strongRecOn with
 |ind n ih=>
  intro L v w hn hv
  obtain⟨a,cap,rfl,hlc,hcap,hlen,hcells⟩:=hv
  have hcap':cap<=9223372036854775807:=hcap
  obtain⟨b,off,hb⟩:∃b off,Hid (0<L.len->a=some ⟨b,off,none⟩/\b<w.heap.size/\NsAt w (·<w.heap.size) L b off):=by
   exact mU
  clear hcells hcap
  go_enter Tryz.func68,Tryz.ntmps68
  go_wp2_with fail
  go_loopg [3,4] L.len (fun m o i wr=>∃(R:Ns) (j:Nat) (l:List UInt8),R.len=m/\j+R.len=L.len/\i=.int .i64 j/\Hid (R.raw l=L.raw [])/\R.all<=n/\
   NsAt w (·<w.heap.size) R b (off+j*3)/\OwnB wr w.heap.size o l/\l.length<=10000/\Below w.heap.size w wr)
  case atStart=>
   exact⟨L,0,[],rfl,by omega,rfl,rfl,hn,by rw [Nat.zero_mul,Nat.add_zero];exact NsAt.zero hb.out,OwnB.nil _ _,by simp,Below.refl _ _⟩
  case round=>
   obtain⟨R,j,l,rfl,hj,rfl,hl,hRn,hat,hown,hl5,hbel⟩:=hrel
   obtain⟨oa,oc,rfl⟩:=hown.form
   cases R with
   |nil=>
    simp only [Ns.len,Nat.add_zero]at hj
    subst hj
    have hl:Hid (L.raw []=l):=hl.out.symm
    have Hown:=iH hown;have Hbel:=iH hbel;clear hown hbel hat ih
    go_wp2_with fail
    go_ret
    rw [hl.out]
    exact⟨_,rfl,Hown.out.out (by omega) w iL,Hbel.out⟩
   |cons t v k r=>
    obtain⟨h1,h2,⟨x,h3,h4⟩,⟨ka,kc,h5,h6,h7,h8x,h9⟩,h10⟩:=hat
    simp only [Ns.len]at hj
    simp only [Ns.all]at hRn
    have hlt:(j:Int)<L.len:=by omega
    obtain⟨rfl,hbl,_⟩:=hb.out (by omega)
    by_cases hl4:l.length<=4096
    ·obtain⟨xa,xc,rfl⟩:=h4.form2
     have hz:=hbel.size
     have hkid:NsS wr (·<wr.heap.size) (.slice ka k.len kc) k:=
      NsS.keep (w:=w) (S:=(·<w.heap.size)) ⟨ka,kc,rfl,h6,h7,h8x,h9⟩ (fun b hs hl=>⟨hbel.block b hl,by omega⟩)
     obtain⟨bx,hbx⟩:∃x,w.heap[b]?=some x:=⟨_,Array.getElem?_eq_getElem hbl⟩
     have q0:wr.cell? ⟨b,off+j*3,none⟩=some (.int .i64 t):=(hbel.cell hbl).trans h1
     have q1:wr.cell? ⟨b,off+j*3+1,none⟩=some (.slice xa v.length xc):=(hbel.cell hbl).trans h3
     have q2:wr.cell? ⟨b,off+j*3+2,none⟩=some (.slice ka k.len kc):=(hbel.cell hbl).trans h5
     have Hc:=iH (yw t h2)
     have HK:=iH (ih k.all (by omega) k (.slice ka k.len kc) wr iL hkid)
     have H4x:=iH h4;have Hown:=iH hown;have Hbel:=iH hbel;have H10:=iH h10;have HX:=iH hbx
     have C1:=iH h1
     clear hkid h4 h9 h10 hown hbel hbx ih h1 h3 h5
     cases ec:jY t with
     |true=>
      rw [ec]at Hc
      by_cases hb255:255<t
      ·by_cases hcut:4096<(k.raw []).length
       ·skip
        obtain⟨c,HC⟩:∃c,Hid (k.raw []=c):=⟨_,rfl⟩
        rw [HC.out]at hcut HK
        have E:=qz t v k r l c _ hl4 (by rw [ec];exact HC.out) rfl
        rw [hl.out]at E
        rw [yd hcut,show(c.take 4097).length=4097 by rw [List.length_take];omega]at E
        obtain⟨d,HD⟩:∃d,Hid (c.take 4097=d):=⟨_,rfl⟩
        rw [HD.out]at E
        have hd:d.length=4097:=by rw [<-HD.out,List.length_take];omega
        have hcut2:(4096:Int)<(c.length:Int):=by omega
        have E:=iH E
        have hg3:=qV 4097
        have T:=iH (show ku t= [ofI (t / 256),ofI t]by unfold ku;rw [iT hb255])
        have d255:decide (t>255)=true:=decide_eq_true hb255
        clear ec hb255 hl
        go_wp2_with(first
         |(go_at_call 95;refine(Hc.out _).mono ?_;rintro e w9 ⟨rfl,hw9⟩;rw [hw9];clear hw9 w9)
         |(go_at_call 68;refine HK.out.mono ?_;rintro e w1 ⟨cv,rfl,hcv,hbw⟩;obtain⟨ca,cc,rfl⟩:=hcv.form2;obtain⟨hcc1,hcc2⟩:=BsS.capLe hcv;have H1:Hid (WSt w w1 (.slice oa l.length oc) l (.slice ca 4097 cc) d b bx):=(by rw [<-HD.out];exact(Jy Hown.out Hbel.out hcv hbw hbl HX.out).cut hcut);have z1:=H1.out.size;have p1:=H1.out.old (p:=⟨b,off+j*3,none⟩) hbl C1.out;clear hcv hbw)
         |(at_builtin;(with_reducible refine jl rfl (.tmp 40) (.tmp 48) rfl w.heap.size (.slice oa l.length oc) l rfl H1.out.own (ofI (t / 256)) _ w1.heap.size rfl rfl (by omega) z1 ?_);intro v2 w2 hgr;obtain⟨l2,E2,k2⟩:=kg (l++ [ofI (t / 256)]) (l.length+1) (by simp);rw [E2.out]at hgr;have H2:=iH (H1.out.grew hgr);obtain⟨a2,c2,rfl⟩:=H2.out.form;have z2:=H2.out.size;have p2:=H2.out.old (p:=⟨b,off+j*3,none⟩) hbl C1.out;clear hgr)
         |(at_builtin;(with_reducible refine jl rfl (.tmp 50) (.tmp 57) rfl w.heap.size (.slice a2 l2.length c2) l2 rfl H2.out.own (ofI t) _ w2.heap.size rfl rfl (by omega) z2 ?_);intro v3 w3 hgr;obtain⟨l3,E3,k3⟩:=kg (l2++ [ofI t]) (l2.length+1) (by simp);rw [E3.out]at hgr;have H3:=iH (H2.out.grew hgr);obtain⟨a3,c3,rfl⟩:=H3.out.form;have z3:=H3.out.size;have p3:=H3.out.old (p:=⟨b,off+j*3,none⟩) hbl C1.out;clear hgr)
         |(go_at_call 96;refine(kM 4097 (by omega) _).mono ?_;rintro e w4 ⟨lv,rfl,hlv,hb4⟩;obtain⟨la,lc,rfl⟩:=hlv.form2;have H4:=iH (H3.out.call hb4);have Hlv:=iH hlv;have z4:=H4.out.size;clear hlv hb4)
         |(at_builtin;(with_reducible refine je rfl (.tmp 64) (.tmp 67) rfl w.heap.size (.slice a3 l3.length c3) l3 rfl H4.out.own la (qT 4097).length lc (qT 4097) _ rfl Hlv.out (by omega) z4 ?_);intro v5 w5 hgr;obtain⟨l5,E5,k5⟩:=kg (l3++qT 4097) (l3.length+(qT 4097).length) (by simp);rw [E5.out]at hgr;have H5:=iH (H4.out.grew hgr);obtain⟨a5,c5,rfl⟩:=H5.out.form;have z5:=H5.out.size;clear hgr)
         |(at_builtin;(with_reducible refine je rfl (.tmp 69) (.tmp 70) rfl w.heap.size (.slice a5 l5.length c5) l5 rfl H5.out.own ca 4097 cc d _ rfl H5.out.bes (by omega) z5 ?_);intro v6 w6 hgr;obtain⟨l6,E6,k6⟩:=kg (l5++d) (l5.length+d.length) (by simp);rw [E6.out]at hgr;have H6:=iH (H5.out.grew hgr);clear hgr))
        go_roundg r.len
        case measure=>simp [Ns.len]
        case rel=>
         exact m0t
       ·skip
        obtain⟨c,HC⟩:∃c,Hid (k.raw []=c):=⟨_,rfl⟩
        rw [HC.out]at hcut HK
        have E:=qz t v k r l c _ hl4 (by rw [ec];exact HC.out) rfl
        rw [hl.out]at E
        rw [JM hcut]at E
        have E:=iH E
        have hg3:=qV c.length
        have T:=iH (show ku t= [ofI (t / 256),ofI t]by unfold ku;rw [iT hb255])
        have d255:decide (t>255)=true:=decide_eq_true hb255
        clear ec hb255 hl
        go_wp2_with(first
         |(go_at_call 95;refine(Hc.out _).mono ?_;rintro e w9 ⟨rfl,hw9⟩;rw [hw9];clear hw9 w9)
         |(go_at_call 68;refine HK.out.mono ?_;rintro e w1 ⟨cv,rfl,hcv,hbw⟩;obtain⟨ca,cc,rfl⟩:=hcv.form2;obtain⟨hcc1,hcc2⟩:=BsS.capLe hcv;have H1:=iH (Jy Hown.out Hbel.out hcv hbw hbl HX.out);have z1:=H1.out.size;have p1:=H1.out.old (p:=⟨b,off+j*3,none⟩) hbl C1.out;clear hcv hbw)
         |(at_builtin;(with_reducible refine jl rfl (.tmp 40) (.tmp 48) rfl w.heap.size (.slice oa l.length oc) l rfl H1.out.own (ofI (t / 256)) _ w1.heap.size rfl rfl (by omega) z1 ?_);intro v2 w2 hgr;obtain⟨l2,E2,k2⟩:=kg (l++ [ofI (t / 256)]) (l.length+1) (by simp);rw [E2.out]at hgr;have H2:=iH (H1.out.grew hgr);obtain⟨a2,c2,rfl⟩:=H2.out.form;have z2:=H2.out.size;have p2:=H2.out.old (p:=⟨b,off+j*3,none⟩) hbl C1.out;clear hgr)
         |(at_builtin;(with_reducible refine jl rfl (.tmp 50) (.tmp 57) rfl w.heap.size (.slice a2 l2.length c2) l2 rfl H2.out.own (ofI t) _ w2.heap.size rfl rfl (by omega) z2 ?_);intro v3 w3 hgr;obtain⟨l3,E3,k3⟩:=kg (l2++ [ofI t]) (l2.length+1) (by simp);rw [E3.out]at hgr;have H3:=iH (H2.out.grew hgr);obtain⟨a3,c3,rfl⟩:=H3.out.form;have z3:=H3.out.size;have p3:=H3.out.old (p:=⟨b,off+j*3,none⟩) hbl C1.out;clear hgr)
         |(go_at_call 96;refine(kM c.length (by omega) _).mono ?_;rintro e w4 ⟨lv,rfl,hlv,hb4⟩;obtain⟨la,lc,rfl⟩:=hlv.form2;have H4:=iH (H3.out.call hb4);have Hlv:=iH hlv;have z4:=H4.out.size;clear hlv hb4)
         |(at_builtin;(with_reducible refine je rfl (.tmp 64) (.tmp 67) rfl w.heap.size (.slice a3 l3.length c3) l3 rfl H4.out.own la (qT c.length).length lc (qT c.length) _ rfl Hlv.out (by omega) z4 ?_);intro v5 w5 hgr;obtain⟨l5,E5,k5⟩:=kg (l3++qT c.length) (l3.length+(qT c.length).length) (by simp);rw [E5.out]at hgr;have H5:=iH (H4.out.grew hgr);obtain⟨a5,c5,rfl⟩:=H5.out.form;have z5:=H5.out.size;clear hgr)
         |(at_builtin;(with_reducible refine je rfl (.tmp 69) (.tmp 70) rfl w.heap.size (.slice a5 l5.length c5) l5 rfl H5.out.own ca c.length cc c _ rfl H5.out.bes (by omega) z5 ?_);intro v6 w6 hgr;obtain⟨l6,E6,k6⟩:=kg (l5++c) (l5.length+c.length) (by simp);rw [E6.out]at hgr;have H6:=iH (H5.out.grew hgr);clear hgr))
        exact m0m
      ·by_cases hcut:4096<(k.raw []).length
       ·skip
        obtain⟨c,HC⟩:∃c,Hid (k.raw []=c):=⟨_,rfl⟩
        rw [HC.out]at hcut HK
        have E:=qz t v k r l c _ hl4 (by rw [ec];exact HC.out) rfl
        rw [hl.out]at E
        rw [yd hcut,show(c.take 4097).length=4097 by rw [List.length_take];omega]at E
        obtain⟨d,HD⟩:∃d,Hid (c.take 4097=d):=⟨_,rfl⟩
        rw [HD.out]at E
        have hd:d.length=4097:=by rw [<-HD.out,List.length_take];omega
        have hcut2:(4096:Int)<(c.length:Int):=by omega
        have E:=iH E
        have hg3:=qV 4097
        have T:=iH (show ku t= [ofI t]by unfold ku;rw [iF hb255])
        have d255:decide (t>255)=false:=decide_eq_false hb255
        clear ec hb255 hl
        go_wp2_with(first
         |(go_at_call 95;refine(Hc.out _).mono ?_;rintro e w9 ⟨rfl,hw9⟩;rw [hw9];clear hw9 w9)
         |(go_at_call 68;refine HK.out.mono ?_;rintro e w1 ⟨cv,rfl,hcv,hbw⟩;obtain⟨ca,cc,rfl⟩:=hcv.form2;obtain⟨hcc1,hcc2⟩:=BsS.capLe hcv;have H1:Hid (WSt w w1 (.slice oa l.length oc) l (.slice ca 4097 cc) d b bx):=(by rw [<-HD.out];exact(Jy Hown.out Hbel.out hcv hbw hbl HX.out).cut hcut);have z1:=H1.out.size;have p1:=H1.out.old (p:=⟨b,off+j*3,none⟩) hbl C1.out;clear hcv hbw)
         |(at_builtin;(with_reducible refine jl rfl (.tmp 50) (.tmp 57) rfl w.heap.size (.slice oa l.length oc) l rfl H1.out.own (ofI t) _ w1.heap.size rfl rfl (by omega) z1 ?_);intro v3 w3 hgr;obtain⟨l3,E3,k3⟩:=kg (l++ [ofI t]) (l.length+1) (by simp);rw [E3.out]at hgr;have H3:=iH (H1.out.grew hgr);obtain⟨a3,c3,rfl⟩:=H3.out.form;have z3:=H3.out.size;have p3:=H3.out.old (p:=⟨b,off+j*3,none⟩) hbl C1.out;clear hgr)
         |(go_at_call 96;refine(kM 4097 (by omega) _).mono ?_;rintro e w4 ⟨lv,rfl,hlv,hb4⟩;obtain⟨la,lc,rfl⟩:=hlv.form2;have H4:=iH (H3.out.call hb4);have Hlv:=iH hlv;have z4:=H4.out.size;clear hlv hb4)
         |(at_builtin;(with_reducible refine je rfl (.tmp 64) (.tmp 67) rfl w.heap.size (.slice a3 l3.length c3) l3 rfl H4.out.own la (qT 4097).length lc (qT 4097) _ rfl Hlv.out (by omega) z4 ?_);intro v5 w5 hgr;obtain⟨l5,E5,k5⟩:=kg (l3++qT 4097) (l3.length+(qT 4097).length) (by simp);rw [E5.out]at hgr;have H5:=iH (H4.out.grew hgr);obtain⟨a5,c5,rfl⟩:=H5.out.form;have z5:=H5.out.size;clear hgr)
         |(at_builtin;(with_reducible refine je rfl (.tmp 69) (.tmp 70) rfl w.heap.size (.slice a5 l5.length c5) l5 rfl H5.out.own ca 4097 cc d _ rfl H5.out.bes (by omega) z5 ?_);intro v6 w6 hgr;obtain⟨l6,E6,k6⟩:=kg (l5++d) (l5.length+d.length) (by simp);rw [E6.out]at hgr;have H6:=iH (H5.out.grew hgr);clear hgr))
        go_roundg r.len
        case measure=>simp [Ns.len]
        case rel=>
         exact m0u
       ·skip
        obtain⟨c,HC⟩:∃c,Hid (k.raw []=c):=⟨_,rfl⟩
        rw [HC.out]at hcut HK
        have E:=qz t v k r l c _ hl4 (by rw [ec];exact HC.out) rfl
        rw [hl.out]at E
        rw [JM hcut]at E
        have E:=iH E
        have hg3:=qV c.length
        have T:=iH (show ku t= [ofI t]by unfold ku;rw [iF hb255])
        have d255:decide (t>255)=false:=decide_eq_false hb255
        clear ec hb255 hl
        go_wp2_with(first
         |(go_at_call 95;refine(Hc.out _).mono ?_;rintro e w9 ⟨rfl,hw9⟩;rw [hw9];clear hw9 w9)
         |(go_at_call 68;refine HK.out.mono ?_;rintro e w1 ⟨cv,rfl,hcv,hbw⟩;obtain⟨ca,cc,rfl⟩:=hcv.form2;obtain⟨hcc1,hcc2⟩:=BsS.capLe hcv;have H1:=iH (Jy Hown.out Hbel.out hcv hbw hbl HX.out);have z1:=H1.out.size;have p1:=H1.out.old (p:=⟨b,off+j*3,none⟩) hbl C1.out;clear hcv hbw)
         |(at_builtin;(with_reducible refine jl rfl (.tmp 50) (.tmp 57) rfl w.heap.size (.slice oa l.length oc) l rfl H1.out.own (ofI t) _ w1.heap.size rfl rfl (by omega) z1 ?_);intro v3 w3 hgr;obtain⟨l3,E3,k3⟩:=kg (l++ [ofI t]) (l.length+1) (by simp);rw [E3.out]at hgr;have H3:=iH (H1.out.grew hgr);obtain⟨a3,c3,rfl⟩:=H3.out.form;have z3:=H3.out.size;have p3:=H3.out.old (p:=⟨b,off+j*3,none⟩) hbl C1.out;clear hgr)
         |(go_at_call 96;refine(kM c.length (by omega) _).mono ?_;rintro e w4 ⟨lv,rfl,hlv,hb4⟩;obtain⟨la,lc,rfl⟩:=hlv.form2;have H4:=iH (H3.out.call hb4);have Hlv:=iH hlv;have z4:=H4.out.size;clear hlv hb4)
         |(at_builtin;(with_reducible refine je rfl (.tmp 64) (.tmp 67) rfl w.heap.size (.slice a3 l3.length c3) l3 rfl H4.out.own la (qT c.length).length lc (qT c.length) _ rfl Hlv.out (by omega) z4 ?_);intro v5 w5 hgr;obtain⟨l5,E5,k5⟩:=kg (l3++qT c.length) (l3.length+(qT c.length).length) (by simp);rw [E5.out]at hgr;have H5:=iH (H4.out.grew hgr);obtain⟨a5,c5,rfl⟩:=H5.out.form;have z5:=H5.out.size;clear hgr)
         |(at_builtin;(with_reducible refine je rfl (.tmp 69) (.tmp 70) rfl w.heap.size (.slice a5 l5.length c5) l5 rfl H5.out.own ca c.length cc c _ rfl H5.out.bes (by omega) z5 ?_);intro v6 w6 hgr;obtain⟨l6,E6,k6⟩:=kg (l5++c) (l5.length+c.length) (by simp);rw [E6.out]at hgr;have H6:=iH (H5.out.grew hgr);clear hgr))
        exact m0o
     |false=>
      rw [ec]at Hc
      by_cases hb255:255<t
      ·by_cases hcut:4096<v.length
       ·skip
        have E:=qz t v k r l v _ hl4 (by rw [ec]<;>rfl) rfl
        rw [hl.out]at E
        rw [yd hcut,show(v.take 4097).length=4097 by rw [List.length_take];omega]at E
        obtain⟨d,HD⟩:∃d,Hid (v.take 4097=d):=⟨_,rfl⟩
        rw [HD.out]at E
        have hd:d.length=4097:=by rw [<-HD.out,List.length_take];omega
        have hcut2:(4096:Int)<(v.length:Int):=by omega
        have E:=iH E
        have hg3:=qV 4097
        have T:=iH (show ku t= [ofI (t / 256),ofI t]by unfold ku;rw [iT hb255])
        have d255:decide (t>255)=true:=decide_eq_true hb255
        clear ec hb255 hl
        have H0:=iH (Jz Hown.out Hbel.out H4x.out hbl HX.out)
        obtain⟨hcc1,hcc2⟩:=BsS.capLe H4x.out
        have H1:Hid (WSt w wr (.slice oa l.length oc) l (.slice xa 4097 xc) d b bx):=by rw [<-HD.out];exact H0.out.cut hcut
        clear H0
        have z1:=H1.out.size
        go_wp2_with(first
         |(go_at_call 95;refine(Hc.out _).mono ?_;rintro e w9 ⟨rfl,hw9⟩;rw [hw9];clear hw9 w9)
         |(at_builtin;(with_reducible refine jl rfl (.tmp 40) (.tmp 48) rfl w.heap.size (.slice oa l.length oc) l rfl H1.out.own (ofI (t / 256)) _ wr.heap.size rfl rfl (by omega) z1 ?_);intro v2 w2 hgr;obtain⟨l2,E2,k2⟩:=kg (l++ [ofI (t / 256)]) (l.length+1) (by simp);rw [E2.out]at hgr;have H2:=iH (H1.out.grew hgr);obtain⟨a2,c2,rfl⟩:=H2.out.form;have z2:=H2.out.size;have p2:=H2.out.old (p:=⟨b,off+j*3,none⟩) hbl C1.out;clear hgr)
         |(at_builtin;(with_reducible refine jl rfl (.tmp 50) (.tmp 57) rfl w.heap.size (.slice a2 l2.length c2) l2 rfl H2.out.own (ofI t) _ w2.heap.size rfl rfl (by omega) z2 ?_);intro v3 w3 hgr;obtain⟨l3,E3,k3⟩:=kg (l2++ [ofI t]) (l2.length+1) (by simp);rw [E3.out]at hgr;have H3:=iH (H2.out.grew hgr);obtain⟨a3,c3,rfl⟩:=H3.out.form;have z3:=H3.out.size;have p3:=H3.out.old (p:=⟨b,off+j*3,none⟩) hbl C1.out;clear hgr)
         |(go_at_call 96;refine(kM 4097 (by omega) _).mono ?_;rintro e w4 ⟨lv,rfl,hlv,hb4⟩;obtain⟨la,lc,rfl⟩:=hlv.form2;have H4:=iH (H3.out.call hb4);have Hlv:=iH hlv;have z4:=H4.out.size;clear hlv hb4)
         |(at_builtin;(with_reducible refine je rfl (.tmp 64) (.tmp 67) rfl w.heap.size (.slice a3 l3.length c3) l3 rfl H4.out.own la (qT 4097).length lc (qT 4097) _ rfl Hlv.out (by omega) z4 ?_);intro v5 w5 hgr;obtain⟨l5,E5,k5⟩:=kg (l3++qT 4097) (l3.length+(qT 4097).length) (by simp);rw [E5.out]at hgr;have H5:=iH (H4.out.grew hgr);obtain⟨a5,c5,rfl⟩:=H5.out.form;have z5:=H5.out.size;clear hgr)
         |(at_builtin;(with_reducible refine je rfl (.tmp 69) (.tmp 70) rfl w.heap.size (.slice a5 l5.length c5) l5 rfl H5.out.own xa 4097 xc d _ rfl H5.out.bes (by omega) z5 ?_);intro v6 w6 hgr;obtain⟨l6,E6,k6⟩:=kg (l5++d) (l5.length+d.length) (by simp);rw [E6.out]at hgr;have H6:=iH (H5.out.grew hgr);clear hgr))
        go_roundg r.len
        case measure=>simp [Ns.len]
        case rel=>
         exact m0t
       ·skip
        have E:=qz t v k r l v _ hl4 (by rw [ec]<;>rfl) rfl
        rw [hl.out]at E
        rw [JM hcut]at E
        have E:=iH E
        have hg3:=qV v.length
        have T:=iH (show ku t= [ofI (t / 256),ofI t]by unfold ku;rw [iT hb255])
        have d255:decide (t>255)=true:=decide_eq_true hb255
        clear ec hb255 hl
        have H0:=iH (Jz Hown.out Hbel.out H4x.out hbl HX.out)
        obtain⟨hcc1,hcc2⟩:=BsS.capLe H4x.out
        have H1:=H0;clear H0
        have z1:=H1.out.size
        go_wp2_with(first
         |(go_at_call 95;refine(Hc.out _).mono ?_;rintro e w9 ⟨rfl,hw9⟩;rw [hw9];clear hw9 w9)
         |(at_builtin;(with_reducible refine jl rfl (.tmp 40) (.tmp 48) rfl w.heap.size (.slice oa l.length oc) l rfl H1.out.own (ofI (t / 256)) _ wr.heap.size rfl rfl (by omega) z1 ?_);intro v2 w2 hgr;obtain⟨l2,E2,k2⟩:=kg (l++ [ofI (t / 256)]) (l.length+1) (by simp);rw [E2.out]at hgr;have H2:=iH (H1.out.grew hgr);obtain⟨a2,c2,rfl⟩:=H2.out.form;have z2:=H2.out.size;have p2:=H2.out.old (p:=⟨b,off+j*3,none⟩) hbl C1.out;clear hgr)
         |(at_builtin;(with_reducible refine jl rfl (.tmp 50) (.tmp 57) rfl w.heap.size (.slice a2 l2.length c2) l2 rfl H2.out.own (ofI t) _ w2.heap.size rfl rfl (by omega) z2 ?_);intro v3 w3 hgr;obtain⟨l3,E3,k3⟩:=kg (l2++ [ofI t]) (l2.length+1) (by simp);rw [E3.out]at hgr;have H3:=iH (H2.out.grew hgr);obtain⟨a3,c3,rfl⟩:=H3.out.form;have z3:=H3.out.size;have p3:=H3.out.old (p:=⟨b,off+j*3,none⟩) hbl C1.out;clear hgr)
         |(go_at_call 96;refine(kM v.length (by omega) _).mono ?_;rintro e w4 ⟨lv,rfl,hlv,hb4⟩;obtain⟨la,lc,rfl⟩:=hlv.form2;have H4:=iH (H3.out.call hb4);have Hlv:=iH hlv;have z4:=H4.out.size;clear hlv hb4)
         |(at_builtin;(with_reducible refine je rfl (.tmp 64) (.tmp 67) rfl w.heap.size (.slice a3 l3.length c3) l3 rfl H4.out.own la (qT v.length).length lc (qT v.length) _ rfl Hlv.out (by omega) z4 ?_);intro v5 w5 hgr;obtain⟨l5,E5,k5⟩:=kg (l3++qT v.length) (l3.length+(qT v.length).length) (by simp);rw [E5.out]at hgr;have H5:=iH (H4.out.grew hgr);obtain⟨a5,c5,rfl⟩:=H5.out.form;have z5:=H5.out.size;clear hgr)
         |(at_builtin;(with_reducible refine je rfl (.tmp 69) (.tmp 70) rfl w.heap.size (.slice a5 l5.length c5) l5 rfl H5.out.own xa v.length xc v _ rfl H5.out.bes (by omega) z5 ?_);intro v6 w6 hgr;obtain⟨l6,E6,k6⟩:=kg (l5++v) (l5.length+v.length) (by simp);rw [E6.out]at hgr;have H6:=iH (H5.out.grew hgr);clear hgr))
        exact m0m
      ·by_cases hcut:4096<v.length
       ·skip
        have E:=qz t v k r l v _ hl4 (by rw [ec]<;>rfl) rfl
        rw [hl.out]at E
        rw [yd hcut,show(v.take 4097).length=4097 by rw [List.length_take];omega]at E
        obtain⟨d,HD⟩:∃d,Hid (v.take 4097=d):=⟨_,rfl⟩
        rw [HD.out]at E
        have hd:d.length=4097:=by rw [<-HD.out,List.length_take];omega
        have hcut2:(4096:Int)<(v.length:Int):=by omega
        have E:=iH E
        have hg3:=qV 4097
        have T:=iH (show ku t= [ofI t]by unfold ku;rw [iF hb255])
        have d255:decide (t>255)=false:=decide_eq_false hb255
        clear ec hb255 hl
        have H0:=iH (Jz Hown.out Hbel.out H4x.out hbl HX.out)
        obtain⟨hcc1,hcc2⟩:=BsS.capLe H4x.out
        have H1:Hid (WSt w wr (.slice oa l.length oc) l (.slice xa 4097 xc) d b bx):=by rw [<-HD.out];exact H0.out.cut hcut
        clear H0
        have z1:=H1.out.size
        go_wp2_with(first
         |(go_at_call 95;refine(Hc.out _).mono ?_;rintro e w9 ⟨rfl,hw9⟩;rw [hw9];clear hw9 w9)
         |(at_builtin;(with_reducible refine jl rfl (.tmp 50) (.tmp 57) rfl w.heap.size (.slice oa l.length oc) l rfl H1.out.own (ofI t) _ wr.heap.size rfl rfl (by omega) z1 ?_);intro v3 w3 hgr;obtain⟨l3,E3,k3⟩:=kg (l++ [ofI t]) (l.length+1) (by simp);rw [E3.out]at hgr;have H3:=iH (H1.out.grew hgr);obtain⟨a3,c3,rfl⟩:=H3.out.form;have z3:=H3.out.size;have p3:=H3.out.old (p:=⟨b,off+j*3,none⟩) hbl C1.out;clear hgr)
         |(go_at_call 96;refine(kM 4097 (by omega) _).mono ?_;rintro e w4 ⟨lv,rfl,hlv,hb4⟩;obtain⟨la,lc,rfl⟩:=hlv.form2;have H4:=iH (H3.out.call hb4);have Hlv:=iH hlv;have z4:=H4.out.size;clear hlv hb4)
         |(at_builtin;(with_reducible refine je rfl (.tmp 64) (.tmp 67) rfl w.heap.size (.slice a3 l3.length c3) l3 rfl H4.out.own la (qT 4097).length lc (qT 4097) _ rfl Hlv.out (by omega) z4 ?_);intro v5 w5 hgr;obtain⟨l5,E5,k5⟩:=kg (l3++qT 4097) (l3.length+(qT 4097).length) (by simp);rw [E5.out]at hgr;have H5:=iH (H4.out.grew hgr);obtain⟨a5,c5,rfl⟩:=H5.out.form;have z5:=H5.out.size;clear hgr)
         |(at_builtin;(with_reducible refine je rfl (.tmp 69) (.tmp 70) rfl w.heap.size (.slice a5 l5.length c5) l5 rfl H5.out.own xa 4097 xc d _ rfl H5.out.bes (by omega) z5 ?_);intro v6 w6 hgr;obtain⟨l6,E6,k6⟩:=kg (l5++d) (l5.length+d.length) (by simp);rw [E6.out]at hgr;have H6:=iH (H5.out.grew hgr);clear hgr))
        go_roundg r.len
        case measure=>simp [Ns.len]
        case rel=>
         exact m0u
       ·skip
        have E:=qz t v k r l v _ hl4 (by rw [ec]<;>rfl) rfl
        rw [hl.out]at E
        rw [JM hcut]at E
        have E:=iH E
        have hg3:=qV v.length
        have T:=iH (show ku t= [ofI t]by unfold ku;rw [iF hb255])
        have d255:decide (t>255)=false:=decide_eq_false hb255
        clear ec hb255 hl
        have H0:=iH (Jz Hown.out Hbel.out H4x.out hbl HX.out)
        obtain⟨hcc1,hcc2⟩:=BsS.capLe H4x.out
        have H1:=H0;clear H0
        have z1:=H1.out.size
        go_wp2_with(first
         |(go_at_call 95;refine(Hc.out _).mono ?_;rintro e w9 ⟨rfl,hw9⟩;rw [hw9];clear hw9 w9)
         |(at_builtin;(with_reducible refine jl rfl (.tmp 50) (.tmp 57) rfl w.heap.size (.slice oa l.length oc) l rfl H1.out.own (ofI t) _ wr.heap.size rfl rfl (by omega) z1 ?_);intro v3 w3 hgr;obtain⟨l3,E3,k3⟩:=kg (l++ [ofI t]) (l.length+1) (by simp);rw [E3.out]at hgr;have H3:=iH (H1.out.grew hgr);obtain⟨a3,c3,rfl⟩:=H3.out.form;have z3:=H3.out.size;have p3:=H3.out.old (p:=⟨b,off+j*3,none⟩) hbl C1.out;clear hgr)
         |(go_at_call 96;refine(kM v.length (by omega) _).mono ?_;rintro e w4 ⟨lv,rfl,hlv,hb4⟩;obtain⟨la,lc,rfl⟩:=hlv.form2;have H4:=iH (H3.out.call hb4);have Hlv:=iH hlv;have z4:=H4.out.size;clear hlv hb4)
         |(at_builtin;(with_reducible refine je rfl (.tmp 64) (.tmp 67) rfl w.heap.size (.slice a3 l3.length c3) l3 rfl H4.out.own la (qT v.length).length lc (qT v.length) _ rfl Hlv.out (by omega) z4 ?_);intro v5 w5 hgr;obtain⟨l5,E5,k5⟩:=kg (l3++qT v.length) (l3.length+(qT v.length).length) (by simp);rw [E5.out]at hgr;have H5:=iH (H4.out.grew hgr);obtain⟨a5,c5,rfl⟩:=H5.out.form;have z5:=H5.out.size;clear hgr)
         |(at_builtin;(with_reducible refine je rfl (.tmp 69) (.tmp 70) rfl w.heap.size (.slice a5 l5.length c5) l5 rfl H5.out.own xa v.length xc v _ rfl H5.out.bes (by omega) z5 ?_);intro v6 w6 hgr;obtain⟨l6,E6,k6⟩:=kg (l5++v) (l5.length+v.length) (by simp);rw [E6.out]at hgr;have H6:=iH (H5.out.grew hgr);clear hgr))
        exact m0o
    ·have B:Hid (L.raw []=l):=by show _=_;rw [<-hl.out,YC t v k r l hl4]
     have Hown:=iH hown;have Hbel:=iH hbel
     clear hown hbel ih h1 h2 h3 h4 h5 h9 h10 hl
     go_wp2_with fail
     go_ret
     rw [B.out]
     exact⟨_,rfl,Hown.out.out (by omega) w iL,Hbel.out⟩
end Go.Proofs.YtadndhgebgjlaaaGreat
