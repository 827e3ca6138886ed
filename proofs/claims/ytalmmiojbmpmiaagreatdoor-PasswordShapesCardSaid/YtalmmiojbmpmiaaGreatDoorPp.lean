/- Layer 2: the walk of the reader's length; Layer 2: words for the reader's object, objects and kids; Layer 2, plain: what objP says, outcome by outcome; Layer... -/
import Derived.StillTailTactics
import Derived.Test.YtalmmiojbmpmiaaGreatDoorPo
set_option linter.all false
set_option maxRecDepth 100000
set_option maxHeartbeats 8000000
namespace Go.Proofs.YtalmmiojbmpmiaaGreatDoor
open Go.RowKit Go.Deep
theorem Zj(l:List UInt8)(k:Nat):0<=beV l k:=by
 induction k with
 |zero=>exact Int.le_refl _
 |succ k ih=>rw [beV];have:=jz (gb l (k+1));omega
theorem Zi(l:List UInt8)(k:Nat):beV l k<256 ^ k:=by
 induction k with
 |zero=>show(0:Int)<256 ^ 0;decide
 |succ k ih=>rw [beV,Int.pow_succ];have:=jC (gb l (k+1));omega
theorem UP(l:List UInt8)(f:UInt8)(x:Nat)(o st:Bool)(h:¬l.length=0)(h0:gb l 0=f)(hx:x=f.toNat):jA l o st=if(x:Int)<128 then .ok (x,1)else if 132<(x:Int)then .error 5 else if(x:Int)=128 then(if o=true then .ok (-1,1)else .error 5)
 else if l.length<1+(x - 128)then .error 6 else if st=true/\(beV l (x - 128)<128\/(1<x - 128/\gb l 1=0))then .error 5 else .ok (beV l (x - 128),1+(x - 128)):=by
 subst hx h0
 unfold jA
 rw [iF h]
 rfl
theorem Yy(l:List UInt8)(z:Nat)(h:beV l 2=z):(z:Int) / 256=0↔gb l 1=0:=by
 have b1:=jC (gb l 1);have b2:=jC (gb l 2);have b3:=jC (gb l 3);have b4:=jC (gb l 4)
 have n1:=jz (gb l 1);have n2:=jz (gb l 2);have n3:=jz (gb l 3);have n4:=jz (gb l 4)
 have e:(z:Int) / 256=bv (gb l 1):=by
  rw [<-h];simp only [beV];simp only [Nat.reduceAdd];omega
 rw [e]
 exact⟨fun h=>qh h,fun h=>by rw [h]<;>rfl⟩
theorem Yz(l:List UInt8)(z:Nat)(h:beV l 3=z):(z:Int) / 65536=0↔gb l 1=0:=by
 have b1:=jC (gb l 1);have b2:=jC (gb l 2);have b3:=jC (gb l 3);have b4:=jC (gb l 4)
 have n1:=jz (gb l 1);have n2:=jz (gb l 2);have n3:=jz (gb l 3);have n4:=jz (gb l 4)
 have e:(z:Int) / 65536=bv (gb l 1):=by
  rw [<-h];simp only [beV];simp only [Nat.reduceAdd];omega
 rw [e]
 exact⟨fun h=>qh h,fun h=>by rw [h]<;>rfl⟩
theorem YA(l:List UInt8)(z:Nat)(h:beV l 4=z):(z:Int) / 16777216=0↔gb l 1=0:=by
 have b1:=jC (gb l 1);have b2:=jC (gb l 2);have b3:=jC (gb l 3);have b4:=jC (gb l 4)
 have n1:=jz (gb l 1);have n2:=jz (gb l 2);have n3:=jz (gb l 3);have n4:=jz (gb l 4)
 have e:(z:Int) / 16777216=bv (gb l 1):=by
  rw [<-h];simp only [beV];simp only [Nat.reduceAdd];omega
 rw [e]
 exact⟨fun h=>qh h,fun h=>by rw [h]<;>rfl⟩
theorem BsS.ne{w:World}{S:Nat->Prop}{bb bo n c:Nat}{l:List UInt8}(h:BsS w S (.slice (some ⟨bb,bo,none⟩) n c) l)(hl:0<l.length):S bb:=by
 obtain⟨_,_,hv,_,_,_,h4⟩:=h
 obtain⟨_,_,e1,e2,_⟩:=h4 hl
 injection hv with e3 _ _
 rw [<-e3]at e1
 injection e1 with e1
 injection e1 with e1 _ _
 rw [e1];exact e2
theorem Jp(B:List UInt8)(bb bo bc p a e cnt:Nat)(st opn:Bool)(w:World)(hB:BsS w (·≠p) (.slice (some ⟨bb,bo,none⟩) B.length bc) B)(he:e<=B.length)(hr:Rd w p (.slice (some ⟨bb,bo,none⟩) B.length bc) a st cnt)(ha:a<=e):
 Calls Tryz.prog 188 #[.pointer (some ⟨p,0,none⟩),.int .i64 e,.bool opn] w (NumOut (jA (rst B a e) opn st) w p (.slice (some ⟨bb,bo,none⟩) B.length bc) a st cnt):=by
 have c0:=hr.c0;have c1:=hr.c1
 have hfz:=hr.fr 1
 have hlen:=hB.len
 have HR:=iH hr;have HB:=iH hB
 clear hr hB
 by_cases h0:a=e
 ·subst h0
  have E:Hid (jA (rst B a a) opn st=.error 6):=by unfold jA;rw [iT (by rw [jd he];omega)]<;>rfl
  go_enter Tryz.func188,Tryz.ntmps188
  go_wp2_with fail
  go_ret2
  exact NumOut.no E.out _ HR.out (World.grownBy.refl w _)
 ·have hlt:a<e:=by omega
  have hl:a<B.length:=by omega
  have q1:=HB.out.cellAt rfl hl
  have hbp:bb≠p:=HB.out.ne (by omega)
  have b1:(0:Int)<=a:=by omega
  have b2:(a:Int)<B.length:=by omega
  have g0:gb (rst B a e) 0=gb B a:=xQ he (by omega)
  have hne:¬(rst B a e).length=0:=by rw [jd he];omega
  obtain⟨x,hx⟩:∃x:Nat,x=(gb B a).toNat:=⟨_,rfl⟩
  have ex:bv (gb B a)=x:=by rw [hx]<;>rfl
  have hxl:x<256:=by rw [hx];exact UInt8.toNat_lt _
  change w.cell? _=some (.int .u8 (bv (gb B a)))at q1
  rw [ex]at q1
  have E0:=iH (UP (rst B a e) (gb B a) x opn st hne g0 hx)
  have HX:=iH hx
  clear g0 hne h0 hx ex
  by_cases h1:x<128
  ·have E:Hid (jA (rst B a e) opn st=.ok ((x:Int),1)):=by rw [E0.out,iT (by omega)]<;>rfl
   go_enter Tryz.func188,Tryz.ntmps188
   go_wp2_with fail
   go_quiet (fail)
   go_wp2_with fail
   go_ret2
   exact NumOut.yes E.out ((HR.out.drewN nq).at_ (a+1) _ (by omega)) (j5 (jf (World.grownBy.refl w _) nq) (.inl rfl) _)
  ·by_cases h2:132<x
   ·have E:Hid (jA (rst B a e) opn st=.error 5):=by rw [E0.out,iF (by omega),iT (by omega)]<;>rfl
    go_enter Tryz.func188,Tryz.ntmps188
    go_wp2_with fail
    go_quiet (fail)
    go_wp2_with fail
    go_ret2
    exact NumOut.no E.out _ ((HR.out.drewN nq).at_ (a+1) _ (by omega)) (j5 (jf (World.grownBy.refl w _) nq) (.inl rfl) _)
   ·by_cases h3:x=128
    ·subst h3
     cases opn with
     |true=>
      have E:Hid (jA (rst B a e) true st=.ok (-1,1)):=by rw [E0.out,iF (by omega),iF (by omega),iT (by omega),iT rfl]<;>rfl
      clear HX
      go_enter Tryz.func188,Tryz.ntmps188
      go_wp2_with fail
      go_quiet (fail)
      go_wp2_with fail
      go_ret2
      exact NumOut.yes E.out ((HR.out.drewN nq).at_ (a+1) _ (by omega)) (j5 (jf (World.grownBy.refl w _) nq) (.inl rfl) _)
     |false=>
      have E:Hid (jA (rst B a e) false st=.error 5):=by rw [E0.out,iF (by omega),iF (by omega),iT (by omega),iF (by decide)]<;>rfl
      clear HX
      go_enter Tryz.func188,Tryz.ntmps188
      go_wp2_with fail
      go_quiet (fail)
      go_wp2_with fail
      go_ret2
      exact NumOut.no E.out _ ((HR.out.drewN nq).at_ (a+1) _ (by omega)) (j5 (jf (World.grownBy.refl w _) nq) (.inl rfl) _)
    ·obtain⟨s,rfl,hs1,hs4⟩:∃s:Nat,x=128+s/\1<=s/\s<=4:=⟨x - 128,by omega,by omega,by omega⟩
     have hand:bits .and .i64 (128+(s:Int)) 15=s:=by
      have:=bits_mask .i64 63 (by decide) (fun n a b=>IntWalk.i64_in n ⟨by omega,by omega⟩) 4 (by decide) (128+(s:Int)) (by omega) (by omega)
      rw [show(15:Int)=2 ^ 4 - 1 by decide,this];omega
     have e15:(15:Int)=2 ^ 4 - 1:=by decide
     have E1:=E0.out
     rw [iF (by omega),iF (by omega),iF (by omega),show 128+s - 128=s by omega]at E1
     clear E0 HX h1 h2 h3 e15
     by_cases h4:e<a+1+s
     ·have E:Hid (jA (rst B a e) opn st=.error 6):=by rw [E1,iT (by rw [jd he];omega)]<;>rfl
      clear E1
      go_enter Tryz.func188,Tryz.ntmps188
      go_wp2_with fail
      go_quiet (fail)
      go_wp2_with fail
      go_ret2
      exact NumOut.no E.out _ ((HR.out.drewN nq).at_ (a+1) _ (by omega)) (j5 (jf (World.grownBy.refl w _) nq) (.inl rfl) _)
     ·rw [iF (by rw [jd he];omega)]at E1
      have E1:=iH E1
      have hg1:gb (rst B a e) 1=gb B (a+1):=xQ he (by omega)
      obtain⟨l,hL⟩:∃l,l=rst B a e:=⟨_,rfl⟩
      have hgl:Hid (∀j,a+j<e->gb l j=gb B (a+j)):=fun j hj=>by rw [hL];exact xQ he hj
      rw [<-hL]at E1 |-
      clear hL
      have h5:a+1+s<=e:=by omega
      clear h4
      go_enter Tryz.func188,Tryz.ntmps188
      go_wp2_with fail
      go_quiet (fail)
      go_wp2_with fail
      go_loopg [10,62] s (fun m n i wr=>∃k:Nat,k+m=s/\i=.int .i64 k/\n=.int .i64 (beV l k)/\Rd wr p (.slice (some ⟨bb,bo,none⟩) B.length bc) (a+1+k) st cnt/\w.grownBy wr (some p))
      case atStart=>exact⟨0,by omega,rfl,rfl,(HR.out.drewN nq).at_ (a+1) _ (by omega),j5 (jf (World.grownBy.refl w _) nq) (.inl rfl) _⟩
      case round=>
       obtain⟨k,hk,rfl,rfl,hr,hg⟩:=hrel
       by_cases hlt:k<s
       ·obtain⟨q,hq⟩:∃q,q=a+1+k:=⟨_,rfl⟩
        have hql:q<B.length:=by omega
        have hy0:=hgl.out (k+1) (by omega)
        rw [show a+(k+1)=q by omega]at hy0
        rw [<-hq]at hr
        have q2:=(World.cell?_of_block (hg.block bb (block_lt_of_cell (HB.out.cellAt rfl hql)) (by intro e;injection e;exact hbp (by assumption)))).trans (HB.out.cellAt rfl hql)
        obtain⟨x,hx⟩:=Int.eq_ofNat_of_zero_le (Zj l k)
        obtain⟨y,hy⟩:∃y:Nat,y=(gb B q).toNat:=⟨_,rfl⟩
        have ey:bv (gb B q)=y:=by rw [hy]<;>rfl
        have hyl:y<256:=by rw [hy];exact UInt8.toNat_lt _
        have hxl:x<16777216:=by
         have h:=Zi l k
         have:(256:Int) ^ k<=256 ^ 3:=by
          obtain h|h|h|h:k=0\/k=1\/k=2\/k=3:=by omega
          all_goals subst h;decide
         omega
        have o1:=Y5 x y (by omega) hyl
        have E2:Hid (beV l (k+1)=(x:Int)*256+y):=by rw [beV,hy0,ey,hx,Int.mul_comm]<;>rfl
        change wr.cell? _=some (.int .u8 (bv (gb B q)))at q2
        rw [ey]at q2
        rw [hx]
        have c0:=hr.c0;have c1:=hr.c1;have hfz:=hr.fr 1
        have HR2:=iH hr;have HG:=iH hg
        have b3:(0:Int)<=q:=by omega
        have b4:(q:Int)<B.length:=by omega
        have hq1:q+1=a+1+(k+1):=by omega
        have HQ:=iH hq1
        clear hr hg hy0 hy ey hx hq hq1 q1
        go_wp2_with fail
        go_quiet (fail)
        go_wp2_with fail
        go_roundg (s - (k+1))
        case measure=>omega
        case rel=>exact⟨k+1,by omega,by go_num,by rw [E2.out],(HR2.out.drewN nq).at_ (a+1+(k+1)) _ (by have:=HQ.out;omega),j5 (jf HG.out nq) (.inl rfl) _⟩
       ·obtain rfl:k=s:=by omega
        obtain⟨z,hz⟩:=Int.eq_ofNat_of_zero_le (Zj l k)
        have hzl:=Zi l k
        rw [hz]at E1 hzl |-
        have hr2:Rd wr p (.slice (some ⟨bb,bo,none⟩) B.length bc) (a+(1+k)) st cnt:=by rw [<-Nat.add_assoc];exact hr
        have c0:=hr.c0;have c1:=hr.c1;have c2:=hr.c2
        have HR2:=iH hr2;have HG:=iH hg
        have HZ:=iH hz;have HZL:=iH hzl
        clear hr hg hr2 hz hzl q1
        cases st with
        |false=>
         have E:Hid (jA l opn false=.ok ((z:Int),1+k)):=by rw [E1.out,iF (by simp)]<;>rfl
         go_wp2_with fail
         go_ret2
         exact NumOut.yes E.out HR2.out HG.out
        |true=>
         by_cases h6:z<128
         ·have E:Hid (jA l opn true=.error 5):=by rw [E1.out,iT ⟨rfl,.inl (by omega)⟩]<;>rfl
          go_wp2_with fail
          go_ret2
          exact NumOut.no E.out _ HR2.out HG.out
         ·have d6:decide ((z:Int)<128)=false:=by simp;omega
          obtain rfl|rfl|rfl|rfl:k=1\/k=2\/k=3\/k=4:=by omega
          ·have E:Hid (jA l opn true=.ok ((z:Int),1+1)):=by rw [E1.out,iF (by omega)]<;>rfl
           have z0:((z:Int)==0)=false:=by simp;omega
           go_wp2_with fail
           go_ret2
           exact NumOut.yes E.out HR2.out HG.out
          ·have tp:=Yy l z HZ.out
           by_cases h7:(z:Int) / 256=0
           ·have z0:((z:Int) / 256==0)=true:=by simp [h7]
            have E:Hid (jA l opn true=.error 5):=by rw [E1.out,iT ⟨rfl,.inr ⟨by omega,tp.1 h7⟩⟩]<;>rfl
            clear tp h7
            go_wp2_with fail
            go_ret2
            exact NumOut.no E.out _ HR2.out HG.out
           ·have z0:((z:Int) / 256==0)=false:=by simp [h7]
            have E:Hid (jA l opn true=.ok ((z:Int),1+2)):=by rw [E1.out,iF (fun h=>h.2.elim (by omega) fun h=>h7 (tp.2 h.2))]<;>rfl
            clear tp h7
            go_wp2_with fail
            go_ret2
            exact NumOut.yes E.out HR2.out HG.out
          ·have tp:=Yz l z HZ.out
           by_cases h7:(z:Int) / 65536=0
           ·have z0:((z:Int) / 65536==0)=true:=by simp [h7]
            have E:Hid (jA l opn true=.error 5):=by rw [E1.out,iT ⟨rfl,.inr ⟨by omega,tp.1 h7⟩⟩]<;>rfl
            clear tp h7
            go_wp2_with fail
            go_ret2
            exact NumOut.no E.out _ HR2.out HG.out
           ·have z0:((z:Int) / 65536==0)=false:=by simp [h7]
            have E:Hid (jA l opn true=.ok ((z:Int),1+3)):=by rw [E1.out,iF (fun h=>h.2.elim (by omega) fun h=>h7 (tp.2 h.2))]<;>rfl
            clear tp h7
            go_wp2_with fail
            go_ret2
            exact NumOut.yes E.out HR2.out HG.out
          ·have tp:=YA l z HZ.out
           by_cases h7:(z:Int) / 16777216=0
           ·have z0:((z:Int) / 16777216==0)=true:=by simp [h7]
            have E:Hid (jA l opn true=.error 5):=by rw [E1.out,iT ⟨rfl,.inr ⟨by omega,tp.1 h7⟩⟩]<;>rfl
            clear tp h7
            go_wp2_with fail
            go_ret2
            exact NumOut.no E.out _ HR2.out HG.out
           ·have z0:((z:Int) / 16777216==0)=false:=by simp [h7]
            have E:Hid (jA l opn true=.ok ((z:Int),1+4)):=by rw [E1.out,iF (fun h=>h.2.elim (by omega) fun h=>h7 (tp.2 h.2))]<;>rfl
            clear tp h7
            go_wp2_with fail
            go_ret2
            exact NumOut.yes E.out HR2.out HG.out
def zm(r:Except Int Vf)(w:World)(p:Nat)(bv:Value)(a:Nat)(st:Bool)(e:Ending)(w':World):Prop:=
 match r with
 |.error er=>er≠0/\(∃t:Int,e=.returned (.tuple #[.agg #[.int .i64 t,.slice none 0 0,.slice none 0 0],.int .i64 er]))/\(∃a' c',Rd w' p bv a' st c')/\w.grownBy w' (some p)
 |.ok o=>∃vv kv,e=.returned (.tuple #[.agg #[.int .i64 o.tag,vv,kv],.int .i64 0])/\BsS w' (New w w') vv o.val/\NsS w' (New w w') kv o.kids/\x5 o.tag/\Rd w' p bv (a+o.used) st o.count/\w.grownBy w' (some p)
def ListOut(r:Except Int Lst)(w:World)(p:Nat)(bv:Value)(a:Nat)(st:Bool)(e:Ending)(w':World):Prop:=
 match r with
 |.error er=>er≠0/\e=.returned (.tuple #[.slice none 0 0,.int .i64 er])/\(∃a' c',Rd w' p bv a' st c')/\w.grownBy w' (some p)
 |.ok o=>∃v,e=.returned (.tuple #[v,.int .i64 0])/\NsS w' (New w w') v o.list/\Rd w' p bv (a+o.used) st o.count/\w.grownBy w' (some p)
def OSt(w wi:World)(p:Nat)(bv:Value)(a:Nat)(st:Bool)(c:Nat):Prop:=
 Rd wi p bv a st c/\w.grownBy wi (some p)/\wi.heap[w.heap.size]?=some (.cells #[.int .i64 0,.slice none 0 0,.slice none 0 0] 66 (0,0))/\p<w.heap.size
theorem OSt.start{w:World}{p:Nat}{bv:Value}{a:Nat}{st:Bool}{c:Nat}(h:Rd w p bv a st c):OSt w (w.alloc (.cells #[.int .i64 0,.slice none 0 0,.slice none 0 0] 66)) p bv a st c:=
 ⟨(Below.heap_alloc w _ p h.lt).trans h,jD (World.grownBy.refl w _) _,iN,h.lt⟩
theorem OSt.step{w wi wj:World}{p:Nat}{bv:Value}{a a':Nat}{st:Bool}{c c':Nat}(h:OSt w wi p bv a st c)(hr:Rd wj p bv a' st c')(hg:wi.grownBy wj (some p)):OSt w wj p bv a' st c':=
 ⟨hr,jN h.2.1 hg,(hg.block _ (iG h.2.2.1) (by intro e;injection e with e;have:=h.2.2.2;omega)).trans h.2.2.1,h.2.2.2⟩
theorem OSt.zc{w wi:World}{p:Nat}{bv:Value}{a:Nat}{st:Bool}{c:Nat}(h:OSt w wi p bv a st c):wi.cell? ⟨w.heap.size,0,none⟩=some (.int .i64 0)/\wi.cell? ⟨w.heap.size,1,none⟩=some (.slice none 0 0)/\wi.cell? ⟨w.heap.size,2,none⟩=some (.slice none 0 0):=by
 refine⟨?_,?_,?_⟩<;>(rw [cell_of_row _ _ _ _ _ _ h.2.2.1]<;>rfl)
theorem OSt.zf{w wi:World}{p:Nat}{bv:Value}{a:Nat}{st:Bool}{c:Nat}(h:OSt w wi p bv a st c)(o:Nat):wi.frozen? ⟨w.heap.size,o,none⟩=false:=by simp [World.frozen?,h.2.2.1]
theorem OSt.bytes{w wi:World}{p:Nat}{bv x:Value}{a:Nat}{st:Bool}{c:Nat}{l:List UInt8}(h:OSt w wi p bv a st c)(hB:BsS w (·≠p) x l):BsS wi (·≠p) x l:=
 hB.keep fun b hs hl=>⟨h.2.1.block b hl (by intro e;injection e with e;exact hs (by omega)),hs⟩
theorem NumOut.err{er:Int}{w:World}{p:Nat}{bv:Value}{a:Nat}{st:Bool}{c:Nat}{e:Ending}{w':World}(h:NumOut (.error er) w p bv a st c e w'):e=.returned (.tuple #[.int .i64 0,.int .i64 er])/\(∃a',Rd w' p bv a' st c)/\w.grownBy w' (some p):=
 ⟨h.1,⟨_,h.2.1.choose_spec.1⟩,h.2.2⟩
theorem NumOut.got{n:Int}{k:Nat}{w:World}{p:Nat}{bv:Value}{a:Nat}{st:Bool}{c:Nat}{e:Ending}{w':World}(h:NumOut (.ok (n,k)) w p bv a st c e w'):e=.returned (.tuple #[.int .i64 n,.int .i64 0])/\Rd w' p bv (a+k) st c/\w.grownBy w' (some p):=by
 obtain⟨h1,⟨a',h2,h3⟩,h4⟩:=h
 have:=h3 _ rfl
 subst this
 exact⟨h1,h2,h4⟩
theorem Ju{l:List UInt8}{er:Int}(h:qI l=.error er):er≠0:=by
 unfold qI at h
 split at h
 ·injection h with h;omega
 ·split at h
  ·split at h
   ·injection h with h;omega
   ·split at h
    ·cases h
    ·injection h with h;omega
  ·split at h
   ·cases h
   ·injection h with h;omega
theorem zT{l:List UInt8}{t:Int}{k:Nat}(h:qI l=.ok (t,k)):xy t=true/\1<=k/\k<=l.length:=by
 unfold qI at h
 split at h
 ·cases h
 ·split at h
  ·split at h
   ·cases h
   ·split at h
    ·injection h with h;injection h with h1 h2;subst h1 h2;exact⟨‹_›,by omega,by omega⟩
    ·cases h
  ·split at h
   ·injection h with h;injection h with h1 h2;subst h1 h2;exact⟨‹_›,by omega,by omega⟩
   ·cases h
theorem kI{l:List UInt8}{o st:Bool}{er:Int}(h:jA l o st=.error er):er≠0:=by
 unfold jA at h
 split at h
 ·injection h with h;omega
 ·split at h
  ·cases h
  ·split at h
   ·injection h with h;omega
   ·split at h
    ·split at h
     ·cases h
     ·injection h with h;omega
    ·split at h
     ·injection h with h;omega
     ·split at h
      ·injection h with h;omega
      ·cases h
theorem xx{l:List UInt8}{o st:Bool}{n:Int}{j:Nat}(h:jA l o st=.ok (n,j)):1<=j/\j<=l.length/\n<=4294967296/\(0<=n\/(n= -1/\o=true)):=by
 unfold jA at h
 split at h
 ·cases h
 ·split at h
  ·injection h with h;injection h with h1 h2;subst h1 h2
   have:=jz (gb l 0);have:=jC (gb l 0)
   exact⟨by omega,by omega,by omega,.inl (by omega)⟩
  ·split at h
   ·cases h
   ·split at h
    ·split at h
     ·injection h with h;injection h with h1 h2;subst h1 h2;exact⟨by omega,by omega,by omega,.inr ⟨rfl,‹_›⟩⟩
     ·cases h
    ·split at h
     ·cases h
     ·split at h
      ·cases h
      ·injection h with h;injection h with h1 h2;subst h1 h2
       have h5:(gb l 0).toNat - 128<=4:=by
        have h6:¬132<bv (gb l 0):=by assumption
        unfold bv at h6;omega
       have h7:=Zi l ((gb l 0).toNat - 128)
       have h8:(256:Int) ^ ((gb l 0).toNat - 128)<=256 ^ 4:=by
        obtain h|h|h|h|h:(gb l 0).toNat - 128=0\/(gb l 0).toNat - 128=1\/(gb l 0).toNat - 128=2\/(gb l 0).toNat - 128=3\/(gb l 0).toNat - 128=4:=by omega
        all_goals rw [h];decide
       exact⟨by omega,by omega,by omega,.inl (Zj _ _)⟩
def j0c(L:List UInt8->Nat->Nat->Bool->Except Int Lst):Prop:=∀l d c o,c<=256->
 (∀r,L l d c o=.ok r->r.used<=l.length/\r.count<=256/\(o=false->r.used=l.length))/\(∀er,L l d c o=.error er->er≠0)
theorem qB{st:Bool}{L:List UInt8->Nat->Nat->Bool->Except Int Lst}(hL:j0c L){l:List UInt8}{d c:Nat}:
 (∀o,Jc st L l d c=.ok o->2<=o.used/\o.used<=l.length/\o.count<=256/\xy o.tag=true)/\(∀er,Jc st L l d c=.error er->er≠0):=by
 unfold Jc
 cases ht:qI l with
 |error e=>exact⟨fun o h=>by simp at h,fun er h=>by simp at h;subst h;exact Ju ht⟩
 |ok x=>
  obtain⟨t,k⟩:=x
  obtain⟨tv,k1,k2⟩:=zT ht
  simp only
  cases hs:jA (l.drop k) (kj t&& !st) st with
  |error e=>exact⟨fun o h=>by simp at h,fun er h=>by simp at h;subst h;exact kI hs⟩
  |ok y=>
   obtain⟨n,j⟩:=y
   obtain⟨j1,j2,n1,n2⟩:=xx hs
   simp only
   rw [List.length_drop]at j2
   by_cases h1:8<d
   ·simp only [iT h1]
    exact⟨fun o h=>by simp at h,fun er h=>by simp at h;omega⟩
   ·simp only [iF h1]
    by_cases h2:256<c+1
    ·simp only [iT h2]
     exact⟨fun o h=>by simp at h,fun er h=>by simp at h;omega⟩
    ·simp only [iF h2]
     by_cases h3:((l.drop (k+j)).length:Int)<n
     ·simp only [iT h3]
      exact⟨fun o h=>by simp at h,fun er h=>by simp at h;omega⟩
     ·simp only [iF h3]
      rw [List.length_drop]at h3
      by_cases h4:n<0
      ·simp only [iT h4]
       obtain⟨g1,g2⟩:=hL (l.drop (k+j)) (d+1) (c+1) true (by omega)
       cases hr:L (l.drop (k+j)) (d+1) (c+1) true with
       |error e=>exact⟨fun o h=>by simp at h,fun er h=>by simp at h;subst h;exact g2 _ hr⟩
       |ok r=>
        obtain⟨u1,u2,_⟩:=g1 r hr
        rw [List.length_drop]at u1
        exact⟨fun o h=>by simp at h;subst h;exact⟨by simp only;omega,by simp only;omega,u2,tv⟩,fun er h=>by simp at h⟩
      ·simp only [iF h4]
       by_cases h5:kj t=true
       ·simp only [iT h5]
        obtain⟨g1,g2⟩:=hL ((l.drop (k+j)).take n.toNat) (d+1) (c+1) false (by omega)
        cases hr:L ((l.drop (k+j)).take n.toNat) (d+1) (c+1) false with
        |error e=>exact⟨fun o h=>by simp at h,fun er h=>by simp at h;subst h;exact g2 _ hr⟩
        |ok r=>
         obtain⟨u1,u2,_⟩:=g1 r hr
         exact⟨fun o h=>by simp at h;subst h;exact⟨by simp only;omega,by simp only;omega,u2,tv⟩,fun er h=>by simp at h⟩
       ·simp only [iF h5]
        exact⟨fun o h=>by simp at h;subst h;exact⟨by simp only;omega,by simp only;omega,by simp only;omega,tv⟩,fun er h=>by simp at h⟩
theorem zg{l:List UInt8}{o:Bool}{u:Nat}(h:k9 l o=some (.ok u)):u<=l.length/\(o=false->u=l.length):=by
 unfold k9 at h
 cases o with
 |true=>
  simp only [iT]at h
  split at h
  ·cases h
  ·split at h
   ·injection h with h;injection h with h;subst h
    rename_i h1 h2
    refine⟨?_,fun h=>by cases h⟩
    rcases Nat.lt_or_ge 1 l.length with h3|h3
    ·omega
    ·exact absurd (by rcases Nat.eq_zero_or_pos l.length with h4|h4;exact .inl h4;exact .inr ⟨h2.1,by omega⟩) h1
   ·cases h
 |false=>
  simp at h
  exact⟨by omega,fun _=>by have:=h.1;rw [this]at h |-;simp;omega⟩
theorem JZ{l:List UInt8}{o:Bool}{er:Int}(h:k9 l o=some (.error er)):er≠0:=by
 unfold k9 at h
 split at h
 ·split at h
  ·injection h with h;injection h with h;omega
  ·split at h<;>cases h
 ·split at h<;>cases h
theorem jV(st:Bool)(n:Nat):j0c (jj st n):=by
 induction n with
 |zero=>
  intro l d c o hc
  rw [jj]
  cases hh:k9 l o with
  |none=>exact⟨fun r h=>by simp at h,fun er h=>by simp at h;omega⟩
  |some x=>
   cases x with
   |error e=>exact⟨fun r h=>by simp at h,fun er h=>by simp at h;subst h;exact JZ hh⟩
   |ok u=>exact⟨fun r h=>by simp at h;subst h;exact⟨(zg hh).1,hc,(zg hh).2⟩,fun er h=>by simp at h⟩
 |succ n ih=>
  intro l d c o hc
  rw [jj]
  cases hh:k9 l o with
  |some x=>
   cases x with
   |error e=>exact⟨fun r h=>by simp at h,fun er h=>by simp at h;subst h;exact JZ hh⟩
   |ok u=>exact⟨fun r h=>by simp at h;subst h;exact⟨(zg hh).1,hc,(zg hh).2⟩,fun er h=>by simp at h⟩
  |none=>
   simp only
   obtain⟨s1,s2⟩:=qB (st:=st) ih (l:=l) (d:=d) (c:=c)
   cases ho:Jc st (jj st n) l d c with
   |error e=>exact⟨fun r h=>by simp at h,fun er h=>by simp at h;subst h;exact s2 _ ho⟩
   |ok x=>
    obtain⟨x1,x2,x3,_⟩:=s1 x ho
    simp only
    obtain⟨g1,g2⟩:=ih (l.drop x.used) d x.count o x3
    cases hr:jj st n (l.drop x.used) d x.count o with
    |error e=>exact⟨fun r h=>by simp at h,fun er h=>by simp at h;subst h;exact g2 _ hr⟩
    |ok r=>
     obtain⟨u1,u2,u3⟩:=g1 r hr
     rw [List.length_drop]at u1 u3
     exact⟨fun q h=>by simp at h;subst h;exact⟨by simp only;omega,u2,fun e=>by have:=u3 e;simp only;omega⟩,fun er h=>by simp at h⟩
section
variable {st:Bool} {n:Nat} {l:List UInt8} {d c:Nat} {t:Int} {k:Nat} (ht:qI l=.ok (t,k))
include ht
theorem ZP{er:Int}(hs:jA (l.drop k) (kj t&& !st) st=.error er):kp st n l d c=.error er:=by unfold kp Jc;rw [ht];simp only [hs]
variable {m:Int} {j:Nat} (hs:jA (l.drop k) (kj t&& !st) st=.ok (m,j))
include hs
theorem ZQ(h:8<d):kp st n l d c=.error 7:=by unfold kp Jc;rw [ht];simp only [hs];rw [iT h]
theorem ZR(h:¬8<d)(h2:256<c+1):kp st n l d c=.error 2:=by unfold kp Jc;rw [ht];simp only [hs];rw [iF h,iT h2]
theorem ZS(h:¬8<d)(h2:¬256<c+1)(h3:((l.drop (k+j)).length:Int)<m):kp st n l d c=.error 6:=by unfold kp Jc;rw [ht];simp only [hs];rw [iF h,iF h2,iT h3]
variable (h:¬8<d) (h2:¬256<c+1) (h3:¬((l.drop (k+j)).length:Int)<m)
include h h2 h3
theorem j0v{er:Int}(h4:m<0)(hr:jj st n (l.drop (k+j)) (d+1) (c+1) true=.error er):kp st n l d c=.error er:=by unfold kp Jc;rw [ht];simp only [hs];rw [iF h,iF h2,iF h3,iT h4,hr]
theorem j0u{r:Lst}(h4:m<0)(hr:jj st n (l.drop (k+j)) (d+1) (c+1) true=.ok r):kp st n l d c=.ok ⟨t,[],r.list,k+j+r.used,r.count⟩:=by unfold kp Jc;rw [ht];simp only [hs];rw [iF h,iF h2,iF h3,iT h4,hr]
theorem V8{er:Int}(h4:¬m<0)(h5:kj t=true)(hr:jj st n ((l.drop (k+j)).take m.toNat) (d+1) (c+1) false=.error er):kp st n l d c=.error er:=by unfold kp Jc;rw [ht];simp only [hs];rw [iF h,iF h2,iF h3,iF h4,iT h5,hr]
theorem Ux{r:Lst}(h4:¬m<0)(h5:kj t=true)(hr:jj st n ((l.drop (k+j)).take m.toNat) (d+1) (c+1) false=.ok r):kp st n l d c=.ok ⟨t,[],r.list,k+j+m.toNat,r.count⟩:=by unfold kp Jc;rw [ht];simp only [hs];rw [iF h,iF h2,iF h3,iF h4,iT h5,hr]
theorem VD(h4:¬m<0)(h5:¬kj t=true):kp st n l d c=.ok ⟨t,(l.drop (k+j)).take m.toNat,.nil,k+j+m.toNat,c+1⟩:=by unfold kp Jc;rw [ht];simp only [hs];rw [iF h,iF h2,iF h3,iF h4,iF h5]
end
def xW(f:Nat)(n:Nat)(opn:Bool):Prop:=∀(B:List UInt8) (bb bo bc p a e d c:Nat) (st:Bool) (w:World),
 BsS w (·≠p) (.slice (some ⟨bb,bo,none⟩) B.length bc) B->e<=B.length->B.length<=4096->Rd w p (.slice (some ⟨bb,bo,none⟩) B.length bc) a st c->a<=e->e - a<=n->d<=9->c<=256->
 Calls Tryz.prog f #[.pointer (some ⟨p,0,none⟩),.int .i64 e,.int .i64 d] w (ListOut (jj st n (rst B a e) d c opn) w p (.slice (some ⟨bb,bo,none⟩) B.length bc) a st)
def j1g(n:Nat):Prop:=∀(B:List UInt8) (bb bo bc p a e d c:Nat) (st:Bool) (w:World),
 BsS w (·≠p) (.slice (some ⟨bb,bo,none⟩) B.length bc) B->e<=B.length->B.length<=4096->Rd w p (.slice (some ⟨bb,bo,none⟩) B.length bc) a st c->a<=e->e - a<=n+1->d<=9->c<=256->
 Calls Tryz.prog 176 #[.pointer (some ⟨p,0,none⟩),.int .i64 e,.int .i64 d] w (zm (kp st n (rst B a e) d c) w p (.slice (some ⟨bb,bo,none⟩) B.length bc) a st)
theorem Qn{t:Int}(h:xy t=true):x5 t:=by have:=yF h;exact⟨by omega,by omega⟩
abbrev Ua(w wi:World)(t:Int)(vv kv:Value):World:=((wi.setCell ⟨w.heap.size,0,none⟩ (.int .i64 t)).setCell ⟨w.heap.size,1,none⟩ vv).setCell ⟨w.heap.size,2,none⟩ kv
theorem OSt.cnt{w wi:World}{p:Nat}{bv:Value}{a:Nat}{st:Bool}{c:Nat}(h:OSt w wi p bv a st c):OSt w (wi.setCell ⟨p,3,none⟩ (.int .i64 ((c:Int)+1))) p bv a st (c+1):=
 h.step (h.1.cnt (c+1) _ (by omega)) (j5 (World.grownBy.refl wi _) (.inl rfl) _)
theorem OSt.put{w wi:World}{p:Nat}{bv:Value}{a:Nat}{st:Bool}{c:Nat}(h:OSt w wi p bv a st c)(n:Nat)(z:Int)(hz:z=n):OSt w (wi.setCell ⟨p,1,none⟩ (.int .i64 z)) p bv n st c:=
 h.step (h.1.at_ n z hz) (j5 (World.grownBy.refl wi _) (.inl rfl) _)
theorem OSt.draws{w wi:World}{p:Nat}{bv:Value}{a:Nat}{st:Bool}{c:Nat}(h:OSt w wi p bv a st c)(n:Nat):OSt w (wi.drewN n) p bv a st c:=⟨h.1,jf h.2.1 n,h.2.2.1,h.2.2.2⟩
theorem OSt.alloc{w wi:World}{p:Nat}{bv:Value}{a:Nat}{st:Bool}{c:Nat}(h:OSt w wi p bv a st c)(o:Obj):OSt w (wi.alloc o) p bv a st c:=
 h.step ((Below.heap_alloc wi o p h.1.lt).trans h.1) (jD (World.grownBy.refl wi _) o)
theorem OSt.other{w wi:World}{p:Nat}{bv:Value}{a:Nat}{st:Bool}{c:Nat}(h:OSt w wi p bv a st c){X:Nat}(hX:w.heap.size<X)(i:Nat)(v:Value):OSt w (wi.setCell ⟨X,i,none⟩ v) p bv a st c:=by
 have hp:=h.2.2.2
 exact⟨(iO (show p≠X by omega)).trans h.1,j5 h.2.1 (.inr (Nat.le_of_lt hX)) _,(iO (show w.heap.size≠X by omega)).trans h.2.2.1,hp⟩
theorem OSt.lt{w wi:World}{p:Nat}{bv:Value}{a:Nat}{st:Bool}{c:Nat}(h:OSt w wi p bv a st c):w.heap.size<wi.heap.size:=(iG h.2.2.1)
theorem OSt.finish{w wi:World}{p:Nat}{bv:Value}{a:Nat}{st:Bool}{c:Nat}(h:OSt w wi p bv a st c)(t:Int)(vv kv:Value):Rd (Ua w wi t vv kv) p bv a st c/\w.grownBy (Ua w wi t vv kv) (some p):=by
 have hp:=h.2.2.2
 have hne:p≠w.heap.size:=by omega
 refine⟨?_,j5 (j5 (j5 h.2.1 (.inr iL) _) (.inr iL) _) (.inr iL) _⟩
 exact((iO hne).trans ((iO hne).trans (iO hne))).trans h.1
theorem OSt.finc{w wi:World}{p:Nat}{bv:Value}{a:Nat}{st:Bool}{c:Nat}(h:OSt w wi p bv a st c)(t:Int)(vv kv:Value):
 (Ua w wi t vv kv).cell? ⟨w.heap.size,0,none⟩=some (.int .i64 t)/\(Ua w wi t vv kv).cell? ⟨w.heap.size,1,none⟩=some vv/\(Ua w wi t vv kv).cell? ⟨w.heap.size,2,none⟩=some kv:=by
 have h1:=qp (i:=2) (qp (i:=1) (qp (i:=0) h.2.2.1 (.int .i64 t)) vv) kv
 refine⟨?_,?_,?_⟩<;>(rw [cell_of_row _ _ _ _ _ _ h1]<;>rfl)
theorem OSt.no{w wi:World}{p:Nat}{bv:Value}{a a0:Nat}{st:Bool}{c:Nat}(h:OSt w wi p bv a st c)(t:Int){r:Except Int Vf}{er:Int}(hr:r=.error er)(he:er≠0):
 zm r w p bv a0 st (.returned (.tuple #[.agg #[.int .i64 t,.slice none 0 0,.slice none 0 0],.int .i64 er])) (Ua w wi t (.slice none 0 0) (.slice none 0 0)):=by
 subst hr
 exact⟨he,⟨t,rfl⟩,⟨a,c,(h.finish t _ _).1⟩,(h.finish t _ _).2⟩
theorem JU{w wi:World}(t:Int)(vv kv:Value){b:Nat}(hb:b≠w.heap.size):(Ua w wi t vv kv).heap[b]?=wi.heap[b]? :=
 (iO hb).trans ((iO hb).trans (iO hb))
theorem OSt.yes{w wi:World}{p:Nat}{bv:Value}{a a0:Nat}{st:Bool}{c:Nat}(h:OSt w wi p bv a st c){r:Except Int Vf}{o:Vf}{vv kv:Value}(hr:r=.ok o)
 (hv:BsS wi (fun b=>w.heap.size<b/\b<wi.heap.size) vv o.val) (hk:NsS wi (fun b=>w.heap.size<b/\b<wi.heap.size) kv o.kids) (hi:x5 o.tag) (ha:a=a0+o.used) (hc:c=o.count):
 zm r w p bv a0 st (.returned (.tuple #[.agg #[.int .i64 o.tag,vv,kv],.int .i64 0])) (Ua w wi o.tag vv kv):=by
 subst hr ha hc
 have hs:(Ua w wi o.tag vv kv).heap.size=wi.heap.size:=by simp [World.setCell]
 exact⟨vv,kv,rfl,hv.keep fun b hb _=>⟨JU _ _ _ (by omega),by omega,by omega⟩,hk.keep fun b hb _=>⟨JU _ _ _ (by omega),by omega,by omega⟩,hi,(h.finish _ _ _).1,(h.finish _ _ _).2⟩
theorem NsS.nil0(w:World)(S:Nat->Prop):NsS w S (.slice none 0 0) .nil:=⟨none,0,rfl,Nat.le_refl _,by simp [maxLen],by simp [Ns.len],fun h=>by simp [Ns.len]at h⟩
theorem BsS.nil0(w:World)(S:Nat->Prop):BsS w S (.slice none 0 0) []:=⟨none,0,rfl,by simp,by simp,by simp,by simp⟩
theorem BsS.capOf{w:World}{S:Nat->Prop}{A:Option Addr}{n c:Nat}{l:List UInt8}(h:BsS w S (.slice A n c) l):n<=c/\c<=9223372036854775807:=by
 obtain⟨_,_,hv,h1,h2,_,_⟩:=h
 injection hv with _ e2 e3
 omega
theorem OSt.below{w wi wj:World}{p:Nat}{bv:Value}{a:Nat}{st:Bool}{c:Nat}(h:OSt w wi p bv a st c)(hb:Below wi.heap.size wi wj):OSt w wj p bv a st c:=
 h.step ((hb.block p h.1.lt).trans h.1) (Je hb _)
theorem j0j{w:World}{S:Nat->Prop}{bb bo n bc:Nat}{B:List UInt8}(h:BsS w S (.slice (some ⟨bb,bo,none⟩) n bc) B)(g u:Nat)(hg:g+u<=B.length):
 BsS w S (.slice (if bc=g then some ⟨bb,bo,none⟩else some ⟨bb,bo+g,none⟩) (g+u - g) (bc - g)) (rst B g (g+u)):=by
 obtain⟨a,c,hv,h1,h2,h3,h4⟩:=h
 injection hv with ha hn hc
 subst ha hc hn
 have hl:(rst B g (g+u)).length=u:=by rw [jd hg];omega
 have hu:g+u - g=u:=by omega
 refine⟨_,bc - g,by rw [hl,hu],by rw [hl];omega,by omega,by rw [hl];omega,fun hp=> ?_⟩
 rw [hl]at hp
 obtain⟨b',off',e,hb,hcell⟩:=h4 (by omega)
 injection e with e
 injection e with e1 e2
 subst e1 e2
 rw [iF (by omega)]
 refine⟨bb,bo+g,rfl,hb,fun j hj=> ?_⟩
 rw [hl]at hj
 rw [Nat.add_assoc,hcell (g+j) (by omega),xQ hg (by omega)]
theorem NsS.form2{w:World}{S:Nat->Prop}{v:Value}{l:Ns}(h:NsS w S v l):∃A c,v=.slice A l.len c:=by
 obtain⟨a,c,hv,_⟩:=h;exact⟨a,c,hv⟩
theorem qX{w:World}{X:Nat}{a b c:Value}{t:TypeId}(h:w.heap[X]?=some (.cells #[a,b,c] t (0,0))):w.cell? ⟨X,0,none⟩=some a/\w.cell? ⟨X,1,none⟩=some b/\w.cell? ⟨X,2,none⟩=some c/\∀o,w.frozen? ⟨X,o,none⟩=false:=by
 refine⟨?_,?_,?_,fun o=>by simp [World.frozen?,h]⟩<;>(rw [cell_of_row _ _ _ _ _ _ h]<;>rfl)
theorem Xz(n:Nat):∀(B:List UInt8) (bb bo bc p a e d c:Nat) (st:Bool) (w:World),
 BsS w (·≠p) (.slice (some ⟨bb,bo,none⟩) B.length bc) B->e<=B.length->B.length<=4096->Rd w p (.slice (some ⟨bb,bo,none⟩) B.length bc) a st c->a<=e->e - a<=n+1->d<=9->c<=256->∀er,qI (rst B a e)=.error er->
 Calls Tryz.prog 176 #[.pointer (some ⟨p,0,none⟩),.int .i64 e,.int .i64 d] w (zm (kp st n (rst B a e) d c) w p (.slice (some ⟨bb,bo,none⟩) B.length bc) a st):=by
 intro B bb bo bc p a e d c st w hB he hB4 hr ha hn hd hc
 have S0:=OSt.start hr
 have HB:=iH hB
 have T:=Jv B bb bo bc p a e c st (w.alloc (.cells #[.int .i64 0,.slice none 0 0,.slice none 0 0] 66)) (S0.bytes hB) he S0.1 ha
 have HS0:=iH S0
 clear S0 hB hr
 intro er ht
 rw [ht]at T
 have n0:(er != 0)=true:=by simp [Ju ht]
 have E:Hid (kp st n (rst B a e) d c=.error er):=by unfold kp Jc;rw [ht]<;>rfl
 have HT:=iH T;have N0:=iH (Ju ht)
 clear T ht
 go_enter Tryz.func176,Tryz.ntmps176
 go_wp2_with(go_at_call 187;refine HT.out.mono ?_;intro e1 w1 h1;obtain⟨rfl,⟨a1,hr1⟩,hg1⟩:=NumOut.err h1;have S1:=iH (HS0.out.step hr1 hg1);clear h1 hr1 hg1;obtain⟨z0,z1,z2⟩:=S1.out.zc;have f0:=S1.out.zf 0;have f1:=S1.out.zf 1;have f2:=S1.out.zf 2)
 obtain⟨y0,y1,y2⟩:=S1.out.finc 0 (.slice none 0 0) (.slice none 0 0)
 exact bodyPost_ret (v:=.tuple #[.agg #[.int .i64 0,.slice none 0 0,.slice none 0 0],.int .i64 er]) (by simp [results,Tryz.results176,go_sem,y0,y1,y2]) rfl (S1.out.no 0 E.out N0.out)
theorem KZ(n:Nat)(hk:xW 189 n true)(ho:xW 161 n false):∀(B:List UInt8) (bb bo bc p a e d c:Nat) (w:World),
 BsS w (·≠p) (.slice (some ⟨bb,bo,none⟩) B.length bc) B->e<=B.length->B.length<=4096->Rd w p (.slice (some ⟨bb,bo,none⟩) B.length bc) a false c->a<=e->e - a<=n+1->d<=9->c<=256->∀t k,qI (rst B a e)=.ok (t,k)->kj t=true->
 Calls Tryz.prog 176 #[.pointer (some ⟨p,0,none⟩),.int .i64 e,.int .i64 d] w (zm (kp false n (rst B a e) d c) w p (.slice (some ⟨bb,bo,none⟩) B.length bc) a false):=by
 intro B bb bo bc p a e d c w hB he hB4 hr ha hn hd hc
 have S0:=OSt.start hr
 have HB:=iH hB
 have T:=Jv B bb bo bc p a e c false (w.alloc (.cells #[.int .i64 0,.slice none 0 0,.slice none 0 0] 66)) (S0.bytes hB) he S0.1 ha
 have HS0:=iH S0
 clear S0 hB hr
 intro t k ht htc
 rw [ht]at T
 obtain⟨tv,k1,k2⟩:=zT ht
 rw [jd he]at k2
 have hin:=Qn tv
 have HC:=iH (fun w=>x9 t hin w)
 have HT:=iH T
 have HL:=fun(w1:World) (h1:BsS w1 (·≠p) (.slice (some ⟨bb,bo,none⟩) B.length bc) B) (h2:Rd w1 p (.slice (some ⟨bb,bo,none⟩) B.length bc) (a+k) false c)=>iH (Jp B bb bo bc p (a+k) e c false true w1 h1 he h2 (by omega))
 rw [htc]at HC
 have hob:(kj t&& !false)=true:=by rw [htc]<;>rfl
 have HI:=iH hin;have TC:=iH htc
 clear T tv hin htc
 cases hs:jA (rst B (a+k) e) true false with
 |error er=>
  have E:Hid (kp false n (rst B a e) d c=.error er):=ZP ht (by rw [hob,jo];exact hs)
  have n0:(er != 0)=true:=by simp [kI hs]
  have N0:=iH (kI hs)
  rw [hs]at HL
  clear hs ht hob
  go_enter Tryz.func176,Tryz.ntmps176
  go_wp2_with(first
   |(go_at_call 187;refine HT.out.mono ?_;intro e1 w1 h1;obtain⟨rfl,hr1,hg1⟩:=NumOut.got h1;have S1:=iH (HS0.out.step hr1 hg1);clear h1 hr1 hg1;obtain⟨z0,z1,z2⟩:=S1.out.zc;have f0:=S1.out.zf 0;have f1:=S1.out.zf 1;have f2:=S1.out.zf 2;have r0:=S1.out.1.c0;have r1:=S1.out.1.c1;have r2:=S1.out.1.c2;have r3:=S1.out.1.c3;have q1:=S1.out.1.fr 1;have q3:=S1.out.1.fr 3)
   |(go_at_call 179;refine(HC.out _).mono ?_;rintro e w' ⟨rfl,rfl⟩)
   |(go_at_call 188;refine(HL _ (S1.out.bytes HB.out) S1.out.1).out.mono ?_;intro e2 w2 h2;obtain⟨rfl,⟨a2,hr2⟩,hg2⟩:=NumOut.err h2;have S2:=iH (S1.out.step hr2 hg2);clear h2 hr2 hg2 z0 z1 z2 f0 f1 f2 r0 r1 r2 r3 q1 q3;obtain⟨z0,z1,z2⟩:=S2.out.zc;have f0:=S2.out.zf 0;have f1:=S2.out.zf 1;have f2:=S2.out.zf 2))
  obtain⟨y0,y1,y2⟩:=S2.out.finc 0 (.slice none 0 0) (.slice none 0 0)
  exact bodyPost_ret (v:=.tuple #[.agg #[.int .i64 0,.slice none 0 0,.slice none 0 0],.int .i64 er]) (by simp [results,Tryz.results176,go_sem,y0,y1,y2]) rfl (S2.out.no 0 E.out N0.out)
 |ok y=>
  obtain⟨m,j⟩:=y
  obtain⟨j1,j2,m1,m2⟩:=xx hs
  rw [jd he]at j2
  rw [hs]at HL
  have hs':jA ((rst B a e).drop k) (kj t&& !false) false=.ok (m,j):=by rw [hob,jo];exact hs
  have HT2:=iH ht;have HS2:=iH hs'
  clear hs ht hob hs'
  by_cases h8:8<d
  ·have E:Hid (kp false n (rst B a e) d c=.error 7):=ZQ HT2.out HS2.out h8
   go_enter Tryz.func176,Tryz.ntmps176
   go_wp2_with(first
    |(go_at_call 187;refine HT.out.mono ?_;intro e1 w1 h1;obtain⟨rfl,hr1,hg1⟩:=NumOut.got h1;have S1:=iH (HS0.out.step hr1 hg1);clear h1 hr1 hg1;obtain⟨z0,z1,z2⟩:=S1.out.zc;have f0:=S1.out.zf 0;have f1:=S1.out.zf 1;have f2:=S1.out.zf 2;have r0:=S1.out.1.c0;have r1:=S1.out.1.c1;have r2:=S1.out.1.c2;have r3:=S1.out.1.c3;have q1:=S1.out.1.fr 1;have q3:=S1.out.1.fr 3)
    |(go_at_call 179;refine(HC.out _).mono ?_;rintro e w' ⟨rfl,rfl⟩)
    |(go_at_call 188;refine(HL _ (S1.out.bytes HB.out) S1.out.1).out.mono ?_;intro e2 w2 h2;obtain⟨rfl,hr2,hg2⟩:=NumOut.got h2;have S2:=iH (S1.out.step hr2 hg2);clear h2 hr2 hg2 z0 z1 z2 f0 f1 f2 r0 r1 r2 r3 q1 q3;obtain⟨z0,z1,z2⟩:=S2.out.zc;have f0:=S2.out.zf 0;have f1:=S2.out.zf 1;have f2:=S2.out.zf 2;have r0:=S2.out.1.c0;have r1:=S2.out.1.c1;have r2:=S2.out.1.c2;have r3:=S2.out.1.c3;have q1:=S2.out.1.fr 1;have q3:=S2.out.1.fr 3))
   obtain⟨y0,y1,y2⟩:=S2.out.cnt.finc 0 (.slice none 0 0) (.slice none 0 0)
   exact bodyPost_ret (v:=.tuple #[.agg #[.int .i64 0,.slice none 0 0,.slice none 0 0],.int .i64 7]) (by simp [results,Tryz.results176,go_sem,y0,y1,y2]) rfl (S2.out.cnt.no 0 E.out (by decide))
  ·by_cases h9:256<c+1
   ·have E:Hid (kp false n (rst B a e) d c=.error 2):=ZR HT2.out HS2.out h8 h9
    go_enter Tryz.func176,Tryz.ntmps176
    go_wp2_with(first
     |(go_at_call 187;refine HT.out.mono ?_;intro e1 w1 h1;obtain⟨rfl,hr1,hg1⟩:=NumOut.got h1;have S1:=iH (HS0.out.step hr1 hg1);clear h1 hr1 hg1;obtain⟨z0,z1,z2⟩:=S1.out.zc;have f0:=S1.out.zf 0;have f1:=S1.out.zf 1;have f2:=S1.out.zf 2;have r0:=S1.out.1.c0;have r1:=S1.out.1.c1;have r2:=S1.out.1.c2;have r3:=S1.out.1.c3;have q1:=S1.out.1.fr 1;have q3:=S1.out.1.fr 3)
     |(go_at_call 179;refine(HC.out _).mono ?_;rintro e w' ⟨rfl,rfl⟩)
     |(go_at_call 188;refine(HL _ (S1.out.bytes HB.out) S1.out.1).out.mono ?_;intro e2 w2 h2;obtain⟨rfl,hr2,hg2⟩:=NumOut.got h2;have S2:=iH (S1.out.step hr2 hg2);clear h2 hr2 hg2 z0 z1 z2 f0 f1 f2 r0 r1 r2 r3 q1 q3;obtain⟨z0,z1,z2⟩:=S2.out.zc;have f0:=S2.out.zf 0;have f1:=S2.out.zf 1;have f2:=S2.out.zf 2;have r0:=S2.out.1.c0;have r1:=S2.out.1.c1;have r2:=S2.out.1.c2;have r3:=S2.out.1.c3;have q1:=S2.out.1.fr 1;have q3:=S2.out.1.fr 3))
    obtain⟨y0,y1,y2⟩:=S2.out.cnt.finc 0 (.slice none 0 0) (.slice none 0 0)
    exact bodyPost_ret (v:=.tuple #[.agg #[.int .i64 0,.slice none 0 0,.slice none 0 0],.int .i64 2]) (by simp [results,Tryz.results176,go_sem,y0,y1,y2]) rfl (S2.out.cnt.no 0 E.out (by decide))
   ·by_cases h10:(e:Int) - ((a+k+j:Nat):Int)<m
    ·have E:Hid (kp false n (rst B a e) d c=.error 6):=ZS HT2.out HS2.out h8 h9 (by rw [jo,jd he];omega)
     go_enter Tryz.func176,Tryz.ntmps176
     go_wp2_with(first
      |(go_at_call 187;refine HT.out.mono ?_;intro e1 w1 h1;obtain⟨rfl,hr1,hg1⟩:=NumOut.got h1;have S1:=iH (HS0.out.step hr1 hg1);clear h1 hr1 hg1;obtain⟨z0,z1,z2⟩:=S1.out.zc;have f0:=S1.out.zf 0;have f1:=S1.out.zf 1;have f2:=S1.out.zf 2;have r0:=S1.out.1.c0;have r1:=S1.out.1.c1;have r2:=S1.out.1.c2;have r3:=S1.out.1.c3;have q1:=S1.out.1.fr 1;have q3:=S1.out.1.fr 3)
      |(go_at_call 179;refine(HC.out _).mono ?_;rintro e w' ⟨rfl,rfl⟩)
      |(go_at_call 188;refine(HL _ (S1.out.bytes HB.out) S1.out.1).out.mono ?_;intro e2 w2 h2;obtain⟨rfl,hr2,hg2⟩:=NumOut.got h2;have S2:=iH (S1.out.step hr2 hg2);clear h2 hr2 hg2 z0 z1 z2 f0 f1 f2 r0 r1 r2 r3 q1 q3;obtain⟨z0,z1,z2⟩:=S2.out.zc;have f0:=S2.out.zf 0;have f1:=S2.out.zf 1;have f2:=S2.out.zf 2;have r0:=S2.out.1.c0;have r1:=S2.out.1.c1;have r2:=S2.out.1.c2;have r3:=S2.out.1.c3;have q1:=S2.out.1.fr 1;have q3:=S2.out.1.fr 3))
     obtain⟨y0,y1,y2⟩:=S2.out.cnt.finc 0 (.slice none 0 0) (.slice none 0 0)
     exact bodyPost_ret (v:=.tuple #[.agg #[.int .i64 0,.slice none 0 0,.slice none 0 0],.int .i64 6]) (by simp [results,Tryz.results176,go_sem,y0,y1,y2]) rfl (S2.out.cnt.no 0 E.out (by decide))
    ·have h3':¬(((rst B a e).drop (k+j)).length:Int)<m:=by rw [jo,jd he];omega
     have H3:=iH h3';clear h3'
     have h11:m<=(e:Int) - (a+k+j):=by omega
     clear h10
     by_cases hm:m<0
     ·skip
      have em:(m== -1)=true:=by simp;omega
      obtain⟨g,hg⟩:∃g,g=a+k+j:=⟨_,rfl⟩
      have hge:g<=e:=by omega
      have HG:=iH hg
      have hl0:=jV false n (rst B g e) (d+1) (c+1) true (by omega)
      have HF:=fun(w3:World) (h1:BsS w3 (·≠p) (.slice (some ⟨bb,bo,none⟩) B.length bc) B) (h2:Rd w3 p (.slice (some ⟨bb,bo,none⟩) B.length bc) g false (c+1))=>
       iH (show Calls Tryz.prog 189 #[.pointer (some ⟨p,0,none⟩),.int .i64 (e:Int),.int .i64 ((d:Int)+1)] w3 (ListOut (jj false n (rst B g e) (d+1) (c+1) true) w3 p (.slice (some ⟨bb,bo,none⟩) B.length bc) g false) from
        hk B bb bo bc p g e (d+1) (c+1) false w3 h1 (by omega) hB4 h2 (by omega) (by omega) (by omega) (by omega))
      clear hg
      cases hl:jj false n (rst B g e) (d+1) (c+1) true with
      |error er=>
       have E:Hid (kp false n (rst B a e) d c=.error er):=j0v HT2.out HS2.out h8 h9 (by have:=H3.out;omega) hm (by rw [jo,<-Nat.add_assoc,<-HG.out];exact hl)
       have ner:er≠0:=hl0.2 er hl
       have n0:(er != 0)=true:=by simp [ner]
       have N0:=iH ner
       rw [hl]at HF
       clear hl hl0 ner
       go_enter Tryz.func176,Tryz.ntmps176
       go_upto_region 19 with (first
        |(go_at_call 187;refine HT.out.mono ?_;intro e1 w1 h1;obtain⟨rfl,hr1,hg1⟩:=NumOut.got h1;have S1:=iH (HS0.out.step hr1 hg1);clear h1 hr1 hg1;obtain⟨z0,z1,z2⟩:=S1.out.zc;have f0:=S1.out.zf 0;have f1:=S1.out.zf 1;have f2:=S1.out.zf 2;have r0:=S1.out.1.c0;have r1:=S1.out.1.c1;have r2:=S1.out.1.c2;have r3:=S1.out.1.c3;have q1:=S1.out.1.fr 1;have q3:=S1.out.1.fr 3)
        |(go_at_call 179;refine(HC.out _).mono ?_;rintro e w' ⟨rfl,rfl⟩)
        |(go_at_call 188;refine(HL _ (S1.out.bytes HB.out) S1.out.1).out.mono ?_;intro e2 w2 h2;obtain⟨rfl,hr2,hg2⟩:=NumOut.got h2;have S2:=iH (S1.out.step hr2 hg2);clear h2 hr2 hg2 z0 z1 z2 f0 f1 f2 r0 r1 r2 r3 q1 q3;obtain⟨z0,z1,z2⟩:=S2.out.zc;have f0:=S2.out.zf 0;have f1:=S2.out.zf 1;have f2:=S2.out.zf 2;have r0:=S2.out.1.c0;have r1:=S2.out.1.c1;have r2:=S2.out.1.c2;have r3:=S2.out.1.c3;have q1:=S2.out.1.fr 1;have q3:=S2.out.1.fr 3))
       have S3:=iH (S2.out.cnt.alloc (.cells #[.int .i64 t,.slice none 0 0,.slice none 0 0] 66))
       have X3:=iH (heap_alloc_new (w2.setCell ⟨p,3,none⟩ (.int .i64 ((c:Int)+1))) (.cells #[.int .i64 t,.slice none 0 0,.slice none 0 0] 66))
       obtain⟨w3,hw3⟩:∃w3,w3=(w2.setCell ⟨p,3,none⟩ (.int .i64 ((c:Int)+1))).alloc (.cells #[.int .i64 t,.slice none 0 0,.slice none 0 0] 66):=⟨_,rfl⟩
       have hX:(w2.setCell ⟨p,3,none⟩ (.int .i64 ((c:Int)+1))).heap.size=w2.heap.size:=by simp [World.setCell]
       rw [hX]at X3
       rw [<-hw3]at S3 X3 |-
       rw [<-HG.out]at S3
       have hlt2:=S2.out.lt
       have hpN:=S3.out.2.2.2
       clear hw3 hX z0 z1 z2 f0 f1 f2 r0 r1 r2 r3 q1 q3
       obtain⟨x0,x1,x2,xf⟩:=qX X3.out
       have xf1:=xf 2
       clear xf
       obtain⟨z0,z1,z2⟩:=S3.out.zc;have f0:=S3.out.zf 0;have f1:=S3.out.zf 1;have f2:=S3.out.zf 2;have r0:=S3.out.1.c0;have r1:=S3.out.1.c1;have r2:=S3.out.1.c2;have r3:=S3.out.1.c3;have q1:=S3.out.1.fr 1;have q3:=S3.out.1.fr 3
       go_wp2_with(go_at_call 189;refine(HF _ (S3.out.bytes HB.out) S3.out.1).out.mono ?_;intro e4 w4 h4;obtain⟨_,rfl,⟨a4,c4,hr4⟩,hg4⟩:=h4;have S4:=iH (S3.out.step hr4 hg4);have X4:=iH ((hg4.block _ (iG X3.out) (by intro e;injection e with e;omega)).trans X3.out);clear hr4 hg4 z0 z1 z2 f0 f1 f2 r0 r1 r2 r3 q1 q3 x0 x1 x2 xf1;obtain⟨x0,x1,x2,xf⟩:=qX X4.out;have xf1:=xf 2;clear xf;obtain⟨z0,z1,z2⟩:=S4.out.zc;have f0:=S4.out.zf 0;have f1:=S4.out.zf 1;have f2:=S4.out.zf 2;have r0:=S4.out.1.c0;have r1:=S4.out.1.c1;have r2:=S4.out.1.c2;have r3:=S4.out.1.c3;have q1:=S4.out.1.fr 1;have q3:=S4.out.1.fr 3)
       have S5:=S4.out.other hlt2 2 (.slice none 0 0)
       obtain⟨y0,y1,y2⟩:=S5.finc t (.slice none 0 0) (.slice none 0 0)
       exact bodyPost_ret (v:=.tuple #[.agg #[.int .i64 t,.slice none 0 0,.slice none 0 0],.int .i64 er]) (by simp [results,Tryz.results176,go_sem,y0,y1,y2]) rfl (S5.no t E.out N0.out)
      |ok r=>
       have E:Hid (kp false n (rst B a e) d c=.ok ⟨t,[],r.list,k+j+r.used,r.count⟩):=j0u HT2.out HS2.out h8 h9 (by have:=H3.out;omega) hm (by rw [jo,<-Nat.add_assoc,<-HG.out];exact hl)
       have hu:=hl0.1 r hl
       have HU:=iH hu
       clear hu
       rw [hl]at HF
       clear hl hl0
       go_enter Tryz.func176,Tryz.ntmps176
       go_upto_region 19 with (first
        |(go_at_call 187;refine HT.out.mono ?_;intro e1 w1 h1;obtain⟨rfl,hr1,hg1⟩:=NumOut.got h1;have S1:=iH (HS0.out.step hr1 hg1);clear h1 hr1 hg1;obtain⟨z0,z1,z2⟩:=S1.out.zc;have f0:=S1.out.zf 0;have f1:=S1.out.zf 1;have f2:=S1.out.zf 2;have r0:=S1.out.1.c0;have r1:=S1.out.1.c1;have r2:=S1.out.1.c2;have r3:=S1.out.1.c3;have q1:=S1.out.1.fr 1;have q3:=S1.out.1.fr 3)
        |(go_at_call 179;refine(HC.out _).mono ?_;rintro e w' ⟨rfl,rfl⟩)
        |(go_at_call 188;refine(HL _ (S1.out.bytes HB.out) S1.out.1).out.mono ?_;intro e2 w2 h2;obtain⟨rfl,hr2,hg2⟩:=NumOut.got h2;have S2:=iH (S1.out.step hr2 hg2);clear h2 hr2 hg2 z0 z1 z2 f0 f1 f2 r0 r1 r2 r3 q1 q3;obtain⟨z0,z1,z2⟩:=S2.out.zc;have f0:=S2.out.zf 0;have f1:=S2.out.zf 1;have f2:=S2.out.zf 2;have r0:=S2.out.1.c0;have r1:=S2.out.1.c1;have r2:=S2.out.1.c2;have r3:=S2.out.1.c3;have q1:=S2.out.1.fr 1;have q3:=S2.out.1.fr 3))
       have S3:=iH (S2.out.cnt.alloc (.cells #[.int .i64 t,.slice none 0 0,.slice none 0 0] 66))
       have X3:=iH (heap_alloc_new (w2.setCell ⟨p,3,none⟩ (.int .i64 ((c:Int)+1))) (.cells #[.int .i64 t,.slice none 0 0,.slice none 0 0] 66))
       obtain⟨w3,hw3⟩:∃w3,w3=(w2.setCell ⟨p,3,none⟩ (.int .i64 ((c:Int)+1))).alloc (.cells #[.int .i64 t,.slice none 0 0,.slice none 0 0] 66):=⟨_,rfl⟩
       have hX:(w2.setCell ⟨p,3,none⟩ (.int .i64 ((c:Int)+1))).heap.size=w2.heap.size:=by simp [World.setCell]
       rw [hX]at X3
       rw [<-hw3]at S3 X3 |-
       rw [<-HG.out]at S3
       have hlt2:=S2.out.lt
       have hpN:=S3.out.2.2.2
       clear hw3 hX z0 z1 z2 f0 f1 f2 r0 r1 r2 r3 q1 q3
       obtain⟨x0,x1,x2,xf⟩:=qX X3.out
       have xf1:=xf 2
       clear xf
       obtain⟨z0,z1,z2⟩:=S3.out.zc;have f0:=S3.out.zf 0;have f1:=S3.out.zf 1;have f2:=S3.out.zf 2;have r0:=S3.out.1.c0;have r1:=S3.out.1.c1;have r2:=S3.out.1.c2;have r3:=S3.out.1.c3;have q1:=S3.out.1.fr 1;have q3:=S3.out.1.fr 3
       go_wp2_with(go_at_call 189;refine(HF _ (S3.out.bytes HB.out) S3.out.1).out.mono ?_;intro e4 w4 h4;obtain⟨v4,rfl,hv4,hr4,hg4⟩:=h4;obtain⟨va,vc,rfl⟩:=NsS.form2 hv4;have Hv4:=iH hv4;have S4:=iH (S3.out.step hr4 hg4);have X4:=iH ((hg4.block _ (iG X3.out) (by intro e;injection e with e;omega)).trans X3.out);clear hv4 hr4 hg4 z0 z1 z2 f0 f1 f2 r0 r1 r2 r3 q1 q3 x0 x1 x2 xf1;obtain⟨x0,x1,x2,xf⟩:=qX X4.out;have xf1:=xf 2;clear xf;obtain⟨z0,z1,z2⟩:=S4.out.zc;have f0:=S4.out.zf 0;have f1:=S4.out.zf 1;have f2:=S4.out.zf 2;have r0:=S4.out.1.c0;have r1:=S4.out.1.c1;have r2:=S4.out.1.c2;have r3:=S4.out.1.c3;have q1:=S4.out.1.fr 1;have q3:=S4.out.1.fr 3)
       have S5:=S4.out.other hlt2 2 (.slice va r.list.len vc)
       obtain⟨y0,y1,y2⟩:=S5.finc t (.slice none 0 0) (.slice va r.list.len vc)
       have hX3:=(iG X3.out)
       exact bodyPost_ret (v:=.tuple #[.agg #[.int .i64 t,.slice none 0 0,.slice va r.list.len vc],.int .i64 0]) (by simp [results,Tryz.results176,go_sem,y0,y1,y2]) rfl
        (S5.yes E.out (BsS.nil0 _ _) (Hv4.out.keep fun b hb _=>⟨iO (by have:=hb.1;show b≠w2.heap.size;omega),by have:=hb.1;omega,by simpa [World.setCell]using hb.2⟩) HI.out (by have:=HG.out;simp only;omega) rfl)
     ·have m0:0<=m:=by omega
      have em:(m== -1)=false:=by simp;omega
      obtain⟨u,rfl⟩:=Int.eq_ofNat_of_zero_le m0
      clear m0 m2
      obtain⟨g,hg⟩:∃g,g=a+k+j:=⟨_,rfl⟩
      have hgu:g+u<=e:=by omega
      have b1:(g:Int)+u<=9223372036854775807:=by omega
      have HG:=iH hg
      have hl0:=jV false n (rst B g (g+u)) (d+1) (c+1) false (by omega)
      have HF:=fun(w3:World) (h1:BsS w3 (·≠p) (.slice (some ⟨bb,bo,none⟩) B.length bc) B) (h2:Rd w3 p (.slice (some ⟨bb,bo,none⟩) B.length bc) g false (c+1))=>
       iH (show Calls Tryz.prog 161 #[.pointer (some ⟨p,0,none⟩),.int .i64 ((g:Int)+u),.int .i64 ((d:Int)+1)] w3 (ListOut (jj false n (rst B g (g+u)) (d+1) (c+1) false) w3 p (.slice (some ⟨bb,bo,none⟩) B.length bc) g false) from
        ho B bb bo bc p g (g+u) (d+1) (c+1) false w3 h1 (by omega) hB4 h2 (by omega) (by omega) (by omega) (by omega))
      clear hg
      cases hl:jj false n (rst B g (g+u)) (d+1) (c+1) false with
      |error er=>
       have E:Hid (kp false n (rst B a e) d c=.error er):=V8 HT2.out HS2.out h8 h9 (by have:=H3.out;omega) (by omega) TC.out (by rw [jo,xu _ _ _ _ (by have:=HG.out;simp;omega),Int.toNat_natCast,<-Nat.add_assoc,<-HG.out];exact hl)
       have ner:er≠0:=hl0.2 er hl
       have n0:(er != 0)=true:=by simp [ner]
       have N0:=iH ner
       rw [hl]at HF
       clear hl hl0 ner
       go_enter Tryz.func176,Tryz.ntmps176
       go_upto_region 21 with (first
        |(go_at_call 187;refine HT.out.mono ?_;intro e1 w1 h1;obtain⟨rfl,hr1,hg1⟩:=NumOut.got h1;have S1:=iH (HS0.out.step hr1 hg1);clear h1 hr1 hg1;obtain⟨z0,z1,z2⟩:=S1.out.zc;have f0:=S1.out.zf 0;have f1:=S1.out.zf 1;have f2:=S1.out.zf 2;have r0:=S1.out.1.c0;have r1:=S1.out.1.c1;have r2:=S1.out.1.c2;have r3:=S1.out.1.c3;have q1:=S1.out.1.fr 1;have q3:=S1.out.1.fr 3)
        |(go_at_call 179;refine(HC.out _).mono ?_;rintro e w' ⟨rfl,rfl⟩)
        |(go_at_call 188;refine(HL _ (S1.out.bytes HB.out) S1.out.1).out.mono ?_;intro e2 w2 h2;obtain⟨rfl,hr2,hg2⟩:=NumOut.got h2;have S2:=iH (S1.out.step hr2 hg2);clear h2 hr2 hg2 z0 z1 z2 f0 f1 f2 r0 r1 r2 r3 q1 q3;obtain⟨z0,z1,z2⟩:=S2.out.zc;have f0:=S2.out.zf 0;have f1:=S2.out.zf 1;have f2:=S2.out.zf 2;have r0:=S2.out.1.c0;have r1:=S2.out.1.c1;have r2:=S2.out.1.c2;have r3:=S2.out.1.c3;have q1:=S2.out.1.fr 1;have q3:=S2.out.1.fr 3))
       have S3:=iH (S2.out.cnt.alloc (.cells #[.int .i64 t,.slice none 0 0,.slice none 0 0] 66))
       have X3:=iH (heap_alloc_new (w2.setCell ⟨p,3,none⟩ (.int .i64 ((c:Int)+1))) (.cells #[.int .i64 t,.slice none 0 0,.slice none 0 0] 66))
       obtain⟨w3,hw3⟩:∃w3,w3=(w2.setCell ⟨p,3,none⟩ (.int .i64 ((c:Int)+1))).alloc (.cells #[.int .i64 t,.slice none 0 0,.slice none 0 0] 66):=⟨_,rfl⟩
       have hX:(w2.setCell ⟨p,3,none⟩ (.int .i64 ((c:Int)+1))).heap.size=w2.heap.size:=by simp [World.setCell]
       rw [hX]at X3
       rw [<-hw3]at S3 X3 |-
       rw [<-HG.out]at S3
       have hlt2:=S2.out.lt
       have hpN:=S3.out.2.2.2
       clear hw3 hX z0 z1 z2 f0 f1 f2 r0 r1 r2 r3 q1 q3
       obtain⟨x0,x1,x2,xf⟩:=qX X3.out
       have xf1:=xf 2
       clear xf
       obtain⟨z0,z1,z2⟩:=S3.out.zc;have f0:=S3.out.zf 0;have f1:=S3.out.zf 1;have f2:=S3.out.zf 2;have r0:=S3.out.1.c0;have r1:=S3.out.1.c1;have r2:=S3.out.1.c2;have r3:=S3.out.1.c3;have q1:=S3.out.1.fr 1;have q3:=S3.out.1.fr 3
       go_wp2_with(go_at_call 161;refine(HF _ (S3.out.bytes HB.out) S3.out.1).out.mono ?_;intro e4 w4 h4;obtain⟨_,rfl,⟨a4,c4,hr4⟩,hg4⟩:=h4;have S4:=iH (S3.out.step hr4 hg4);have X4:=iH ((hg4.block _ (iG X3.out) (by intro e;injection e with e;omega)).trans X3.out);clear hr4 hg4 z0 z1 z2 f0 f1 f2 r0 r1 r2 r3 q1 q3 x0 x1 x2 xf1;obtain⟨x0,x1,x2,xf⟩:=qX X4.out;have xf1:=xf 2;clear xf;obtain⟨z0,z1,z2⟩:=S4.out.zc;have f0:=S4.out.zf 0;have f1:=S4.out.zf 1;have f2:=S4.out.zf 2;have r0:=S4.out.1.c0;have r1:=S4.out.1.c1;have r2:=S4.out.1.c2;have r3:=S4.out.1.c3;have q1:=S4.out.1.fr 1;have q3:=S4.out.1.fr 3)
       have S5:=S4.out.other hlt2 2 (.slice none 0 0)
       obtain⟨y0,y1,y2⟩:=S5.finc t (.slice none 0 0) (.slice none 0 0)
       exact bodyPost_ret (v:=.tuple #[.agg #[.int .i64 t,.slice none 0 0,.slice none 0 0],.int .i64 er]) (by simp [results,Tryz.results176,go_sem,y0,y1,y2]) rfl (S5.no t E.out N0.out)
      |ok r=>
       have E:Hid (kp false n (rst B a e) d c=.ok ⟨t,[],r.list,k+j+u,r.count⟩):=Ux HT2.out HS2.out h8 h9 (by have:=H3.out;omega) (by omega) TC.out (by rw [jo,xu _ _ _ _ (by have:=HG.out;simp;omega),Int.toNat_natCast,<-Nat.add_assoc,<-HG.out];exact hl)
       have hu:=hl0.1 r hl
       have HU:=iH hu
       clear hu
       rw [hl]at HF
       clear hl hl0
       go_enter Tryz.func176,Tryz.ntmps176
       go_upto_region 21 with (first
        |(go_at_call 187;refine HT.out.mono ?_;intro e1 w1 h1;obtain⟨rfl,hr1,hg1⟩:=NumOut.got h1;have S1:=iH (HS0.out.step hr1 hg1);clear h1 hr1 hg1;obtain⟨z0,z1,z2⟩:=S1.out.zc;have f0:=S1.out.zf 0;have f1:=S1.out.zf 1;have f2:=S1.out.zf 2;have r0:=S1.out.1.c0;have r1:=S1.out.1.c1;have r2:=S1.out.1.c2;have r3:=S1.out.1.c3;have q1:=S1.out.1.fr 1;have q3:=S1.out.1.fr 3)
        |(go_at_call 179;refine(HC.out _).mono ?_;rintro e w' ⟨rfl,rfl⟩)
        |(go_at_call 188;refine(HL _ (S1.out.bytes HB.out) S1.out.1).out.mono ?_;intro e2 w2 h2;obtain⟨rfl,hr2,hg2⟩:=NumOut.got h2;have S2:=iH (S1.out.step hr2 hg2);clear h2 hr2 hg2 z0 z1 z2 f0 f1 f2 r0 r1 r2 r3 q1 q3;obtain⟨z0,z1,z2⟩:=S2.out.zc;have f0:=S2.out.zf 0;have f1:=S2.out.zf 1;have f2:=S2.out.zf 2;have r0:=S2.out.1.c0;have r1:=S2.out.1.c1;have r2:=S2.out.1.c2;have r3:=S2.out.1.c3;have q1:=S2.out.1.fr 1;have q3:=S2.out.1.fr 3))
       have S3:=iH (S2.out.cnt.alloc (.cells #[.int .i64 t,.slice none 0 0,.slice none 0 0] 66))
       have X3:=iH (heap_alloc_new (w2.setCell ⟨p,3,none⟩ (.int .i64 ((c:Int)+1))) (.cells #[.int .i64 t,.slice none 0 0,.slice none 0 0] 66))
       obtain⟨w3,hw3⟩:∃w3,w3=(w2.setCell ⟨p,3,none⟩ (.int .i64 ((c:Int)+1))).alloc (.cells #[.int .i64 t,.slice none 0 0,.slice none 0 0] 66):=⟨_,rfl⟩
       have hX:(w2.setCell ⟨p,3,none⟩ (.int .i64 ((c:Int)+1))).heap.size=w2.heap.size:=by simp [World.setCell]
       rw [hX]at X3
       rw [<-hw3]at S3 X3 |-
       rw [<-HG.out]at S3
       have hlt2:=S2.out.lt
       have hpN:=S3.out.2.2.2
       clear hw3 hX z0 z1 z2 f0 f1 f2 r0 r1 r2 r3 q1 q3
       obtain⟨x0,x1,x2,xf⟩:=qX X3.out
       have xf1:=xf 2
       clear xf
       obtain⟨z0,z1,z2⟩:=S3.out.zc;have f0:=S3.out.zf 0;have f1:=S3.out.zf 1;have f2:=S3.out.zf 2;have r0:=S3.out.1.c0;have r1:=S3.out.1.c1;have r2:=S3.out.1.c2;have r3:=S3.out.1.c3;have q1:=S3.out.1.fr 1;have q3:=S3.out.1.fr 3
       go_wp2_with(go_at_call 161;refine(HF _ (S3.out.bytes HB.out) S3.out.1).out.mono ?_;intro e4 w4 h4;obtain⟨v4,rfl,hv4,hr4,hg4⟩:=h4;obtain⟨va,vc,rfl⟩:=NsS.form2 hv4;have Hv4:=iH hv4;have S4:=iH (S3.out.step hr4 hg4);have X4:=iH ((hg4.block _ (iG X3.out) (by intro e;injection e with e;omega)).trans X3.out);clear hv4 hr4 hg4 z0 z1 z2 f0 f1 f2 r0 r1 r2 r3 q1 q3 x0 x1 x2 xf1;obtain⟨x0,x1,x2,xf⟩:=qX X4.out;have xf1:=xf 2;clear xf;obtain⟨z0,z1,z2⟩:=S4.out.zc;have f0:=S4.out.zf 0;have f1:=S4.out.zf 1;have f2:=S4.out.zf 2;have r0:=S4.out.1.c0;have r1:=S4.out.1.c1;have r2:=S4.out.1.c2;have r3:=S4.out.1.c3;have q1:=S4.out.1.fr 1;have q3:=S4.out.1.fr 3)
       have S5:=S4.out.other hlt2 2 (.slice va r.list.len vc)
       obtain⟨y0,y1,y2⟩:=S5.finc t (.slice none 0 0) (.slice va r.list.len vc)
       have hX3:=(iG X3.out)
       exact bodyPost_ret (v:=.tuple #[.agg #[.int .i64 t,.slice none 0 0,.slice va r.list.len vc],.int .i64 0]) (by simp [results,Tryz.results176,go_sem,y0,y1,y2]) rfl
        (S5.yes E.out (BsS.nil0 _ _) (Hv4.out.keep fun b hb _=>⟨iO (by have:=hb.1;show b≠w2.heap.size;omega),by have:=hb.1;omega,by simpa [World.setCell]using hb.2⟩) HI.out (by have:=HG.out;have:=HU.out.2.2 (by simp);rw [jd (by omega)]at this;simp only;omega) rfl)
end Go.Proofs.YtalmmiojbmpmiaaGreatDoor
