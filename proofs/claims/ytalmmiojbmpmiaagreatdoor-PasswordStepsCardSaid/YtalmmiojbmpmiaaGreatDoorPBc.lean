/- The walks of the reference of layer 5: times, Substitute; The walk of the reference's table; The walk of the reference's expand; The walks of the reference's... -/
import Derived.Deep.LoopGhost
import Derived.Test.YtalmmiojbmpmiaaGreatDoorPBb
import Derived.Test.YtalmmiojbmpmiaaGreatDoorPy
set_option linter.all false
set_option maxRecDepth 100000
set_option maxHeartbeats 2000000
namespace Go.Proofs.YtalmmiojbmpmiaaGreatDoor
open Go.RowKit
section
open Go.RowKit
theorem qd{p:UInt8->Prop}(h:∀n,n<256->p (UInt8.ofNat n))(b:UInt8):p b:=by
 have:=h b.toNat b.toNat_lt
 rwa [UInt8.ofNat_toNat]at this
theorem j7p(a:UInt8)(h:255<bv a*2):bits .xor .i64 (bv a*2) 283=bv (dbl a):=by
 revert h
 refine qd (p:=fun a=>255<bv a*2->bits .xor .i64 (bv a*2) 283=bv (dbl a)) ?_ a
 decide+kernel
theorem j7q(a:UInt8)(h:¬255<bv a*2):bv a*2=bv (dbl a):=by
 revert h
 refine qd (p:=fun a=>¬255<bv a*2->bv a*2=bv (dbl a)) ?_ a
 decide+kernel
theorem Qa(z:Int):bits .and .i64 z 1=z % 2:=by
 unfold bits
 simp only [show BitVec.ofInt IntKind.i64.bits 1=1#64 from rfl]
 have h:(BitVec.ofInt 64 z &&& 1#64).toNat=(z % 2).toNat:=by
  rw [BitVec.toNat_and,BitVec.toNat_ofInt,show(1#64).toNat=1 from rfl,Nat.and_one_is_mod]
  omega
 show IntKind.i64.wrap (((BitVec.ofInt 64 z &&& 1#64).toNat:Nat):Int)=z % 2
 rw [h,IntWalk.i64_in _ (by omega)]
 omega
theorem Jt(a b:UInt8):bits .xor .i64 (bv a) (bv b)=bv (a ^^^ b):=by
 unfold bits bv
 show IntKind.i64.wrap (((BitVec.ofInt 64 (a.toNat:Int) ^^^ BitVec.ofInt 64 (b.toNat:Int)).toNat:Nat):Int)=_
 have ha:=a.toNat_lt;have hb:=b.toNat_lt
 rw [BitVec.toNat_xor,BitVec.ofInt_natCast,BitVec.ofInt_natCast,BitVec.toNat_ofNat,BitVec.toNat_ofNat,Nat.mod_eq_of_lt (by omega),Nat.mod_eq_of_lt (by omega),UInt8.toNat_xor]
 have:a.toNat ^^^ b.toNat<2 ^ 8:=Nat.xor_lt_two_pow ha hb
 exact IntWalk.i64_in _ (by omega)
attribute [simp] Qa Jt
def Ve:Nat->UInt8->Int->UInt8->UInt8
 |0,_,_,out=>out
 |n+1,a,z,out=>Ve n (dbl a) (z / 2) (if z % 2==1 then out ^^^ a else out)
def tms(a b:UInt8):UInt8:=Ve 8 a (bv b) 0
theorem U0(n:Nat)(a:UInt8)(z:Int)(out:UInt8)(h:(z % 2==1)=true):Ve (n+1) a z out=Ve n (dbl a) (z / 2) (out ^^^ a):=by rw [Ve,iT h]
theorem K8(n:Nat)(a:UInt8)(z:Int)(out:UInt8)(h:(z % 2==1)=false):Ve (n+1) a z out=Ve n (dbl a) (z / 2) out:=by rw [Ve,iF (by simp [h])]
theorem j2i(z:Int)(n:Nat):z / 2 ^ n / 2=z / 2 ^ (n+1):=by
 have h:(0:Int)<2 ^ n:=Int.pow_pos (by omega)
 rw [Int.ediv_ediv,iF (by omega),Int.pow_succ,Int.sub_zero]
theorem Ze(a b:UInt8)(w:World):
 Calls Tryz.prog 173 #[.int .i64 (bv a),.int .i64 (bv b)] w fun e w'=>e=.returned (.int .i64 (bv (tms a b)))/\w'=w:=by
 go_enter Tryz.func173,Tryz.ntmps173
 go_wp2
 go_loop [0,5,6] (fun x p i=>∃(n:Nat) (a' out:UInt8),n<=8/\i=.int .i64 n/\x=.int .i64 (bv a')/\p=.int .i64 (bv out)/\Hid (Ve (8 - n) a' (bv b / 2 ^ n) out=tms a b)) (fun _ _ i=>8 - (intOf i).toNat)
 case atStart=>exact⟨0,a,0,by omega,rfl,rfl,rfl,by show Ve 8 a (bv b / 2 ^ 0) 0=_;rw [Int.pow_zero,Int.ediv_one]<;>rfl⟩
 case round=>
  obtain⟨n,a',out,hn,rfl,rfl,rfl,hg⟩:=hrel
  have h0:=jP a'
  have h1:=jT a'
  by_cases hlt:n<8
  ·obtain⟨m,hm⟩:∃m,m=8 - (n+1):=⟨_,rfl⟩
   have hm2:8 - n=m+1:=by omega
   have Hm:=iH hm;have Hm2:=iH hm2;clear hm hm2
   go_wp2
   all_goals
    go_round
    case rel=>
     refine⟨n+1,dbl a',_,by omega,by go_num,?_,rfl,?_⟩
     ·first
       |rw [j7p a' ‹_›]
       |rw [j7q a' (by omega)]
     ·rw [<-Hm.out,<-j2i]
      first
       |(rw [<-U0 _ _ _ _ ‹_›,<-Hm2.out];exact hg)
       |(rw [<-K8 _ _ _ _ ‹_›,<-Hm2.out];exact hg)
    case measure=>simp [intOf]<;>omega
  ·go_wp2
   go_ret
   have h8:n=8:=by omega
   subst h8
   exact⟨by rw [<-hg.out]<;>rfl,rfl⟩
theorem ye(a b:UInt8)(x y:Int)(hx:x=bv a)(hy:y=bv b)(w:World):
 Calls Tryz.prog 173 #[.int .i64 x,.int .i64 y] w fun e w'=>e=.returned (.int .i64 (bv (tms a b)))/\w'=w:=by
 subst hx;subst hy;exact Ze a b w
def j88(q:Int)(n:Nat):Int:=
 bits .xor .i64 (bits .xor .i64 (bits .xor .i64 (bits .xor .i64 (bits .xor .i64 (q / 2 ^ n) (q / 2 ^ ((n+4) % 8))) (q / 2 ^ ((n+5) % 8))) (q / 2 ^ ((n+6) % 8))) (q / 2 ^ ((n+7) % 8))) (99 / 2 ^ n)
def j6s(q:Int):Nat->Int
 |0=>0
 |n+1=>bits .or .i64 (j6s q n) (wrap64 (j88 q n % 2*2 ^ n))
def aff(q:UInt8):UInt8:=ofI (j6s (bv q) 8)
theorem j35(q:UInt8):j6s (bv q) 8=bv (aff q):=by
 refine qd (p:=fun q=>j6s (bv q) 8=bv (aff q)) ?_ q
 decide+kernel
def pw(x:UInt8):Nat->UInt8
 |0=>1
 |n+1=>tms (pw x n) x
end
def rP:Nat->UInt8
 |0=>1
 |n+1=>tms (rP n) 3
def rQ:Nat->UInt8
 |0=>1
 |n+1=>tms (rQ n) 246
def rT:Nat->Nat->UInt8
 |0=>fun _=>0
 |n+1=>fun j=>if j=(rP n).toNat then aff (rQ n)else rT n j
def JP(j:Nat):UInt8:=if j=0 then 99 else rT 255 j
theorem j6u:(rP 255==1)=true:=by decide+kernel
theorem j6t(n:Nat)(h0:0<n)(h:n<255):(rP n==1)=false:=by
 have:∀n,n<255->0<n->(rP n==1)=false:=by decide+kernel
 exact this n h h0
theorem j5x(w:World):(zeroValue 162).run Tryz.prog w=.ok (.agg (kO 256 fun _=>0)) w:=by kernel_rfl
theorem j15(w:World):
 Calls Tryz.prog 155 #[] w fun e w'=>e=.returned (.agg (kO 256 JP))/\Below w.heap.size w w':=by
 have hz:=j5x
 have hr0:((w.alloc (.cells (kO 256 fun _=>0) 162)).alloc (.cells (kO 256 fun _=>0) 162)).rowIs w.heap.size 162 256 (fun _=>U8 0):=(jR _ _ _ _).alloc _
 have hr1:((w.alloc (.cells (kO 256 fun _=>0) 162)).alloc (.cells (kO 256 fun _=>0) 162)).rowIs (w.heap.size+1) 162 256 (fun _=>U8 0):=by
  have:=jR (w.alloc (.cells (kO 256 fun _=>0) 162)) 256 162 (fun _=>0)
  simpa using this
 have hb0:Below w.heap.size w ((w.alloc (.cells (kO 256 fun _=>0) 162)).alloc (.cells (kO 256 fun _=>0) 162)):=(iA).alloc (by simp) _
 have Hr0:=iH hr0;have Hr1:=iH hr1;have Hb0:=iH hb0
 clear hr0 hr1 hb0
 go_enter Tryz.func155,Tryz.ntmps155
 go_wp2
 go_loopg [2,3] 254 (fun k p q wr=>∃n:Nat,n+k=254/\p=.int .i64 (bv (rP n))/\q=.int .i64 (bv (rQ n))/\wr.rowIs w.heap.size 162 256 (fun _=>U8 0)/\wr.rowIs (w.heap.size+1) 162 256 (fun j=>U8 (rT n j))/\Below w.heap.size w wr)
 case atStart=>exact⟨0,by omega,rfl,rfl,Hr0.out,Hr1.out,Hb0.out⟩
 case round=>
  obtain⟨n,hn,rfl,rfl,hr,ht,hb⟩:=hrel
  have Hn:=iH hn;clear hn
  obtain⟨q,hq⟩:∃q,q=rQ n:=⟨_,rfl⟩
  rw [<-hq]
  have Hq:=iH hq;clear hq
  have q0:=jP q
  have q1:=jT q
  go_wp2
  go_loop [4,5] (fun o i=>∃(m:Nat),m<=8/\i=.int .i64 m/\o=.int .i64 (j6s (bv q) m)) (fun _ i=>8 - (intOf i).toNat)
  case atStart=>exact⟨0,by omega,rfl,rfl⟩
  case round=>
   obtain⟨m,hm,rfl,rfl⟩:=hrel
   by_cases hlt:m<8
   ·go_wp2
    go_round
    case rel=>exact⟨m+1,by omega,by go_num,rfl⟩
    case measure=>simp [intOf]<;>omega
   ·have hm8:m=8:=by omega
    subst hm8
    obtain⟨p,hp⟩:∃p,p=rP n:=⟨_,rfl⟩
    rw [<-hp]
    have Hp:=iH hp;clear hp
    have p0:=jP p
    have p1:=jT p
    have c1:=ht.cell (i:=p.toNat) p.toNat_lt
    have f1:=ht.frozen p.toNat
    have ea:=j35 q
    have hr5:=hr.setOther (a:=⟨w.heap.size+1,p.toNat,none⟩) (by simp) (U8 (aff q))
    have hb5:=hb.setCell (p:=⟨w.heap.size+1,p.toNat,none⟩) (by simp) (U8 (aff q))
    have ht5:(wr.setCell ⟨w.heap.size+1,p.toNat,none⟩ (U8 (aff q))).rowIs (w.heap.size+1) 162 256 (fun j=>U8 (rT (n+1) j)):=
     (ht.set p.toNat _).congr fun j _=>by
       show _=U8 (if j=(rP n).toNat then aff (rQ n)else rT n j)
       rw [<-Hp.out,<-Hq.out]
       by_cases e:j=p.toNat
       ·rw [iT e,iT e]
       ·rw [iF e,iF e]
    have eP:rP (n+1)=tms p 3:=by rw [Hp.out]<;>rfl
    have eQ:rQ (n+1)=tms q 246:=by rw [Hq.out]<;>rfl
    have EP:=iH eP;have EQ:=iH eQ;have HR5:=iH hr5;have HT5:=iH ht5;have HB5:=iH hb5
    clear eP eQ hr5 ht5 hb5
    by_cases hend:n=254
    ·have hone:(tms p 3==1)=true:=by rw [<-EP.out,hend];exact j6u
     have Hone:=iH hone;clear hone
     go_wp2_with fail
     refine(ye p 3 _ _ rfl rfl _).mono ?_
     rintro e w' ⟨rfl,rfl⟩
     go_wp2_with fail
     refine(ye q 246 _ _ rfl rfl _).mono ?_
     rintro e w' ⟨rfl,rfl⟩
     clear c1 f1 hr ht hb
     have hone:=Hone.out
     obtain⟨w6,hw6⟩:∃w6,w6=wr.setCell ⟨w.heap.size+1,p.toNat,none⟩ (U8 (aff q)):=⟨_,rfl⟩
     rw [<-hw6]at HR5 HT5 HB5 |-
     clear hw6
     have c6:=HT5.out.cell (i:=0) (by omega)
     have f6:=HT5.out.frozen 0
     have hrow7:ArrB (w6.setCell ⟨w.heap.size+1,0,none⟩ (.int .u8 99)) (w.heap.size+1) 0 256 JP:=(ArrB.of_row (off:=0) (f:=fun j=>if j=0 then 99 else rT (n+1) j) ((HT5.out.set 0 (U8 99)).congr fun j _=>by
      by_cases e:j=0
      ·rw [iT e,iT e]
      ·rw [iF e,iF e]) (m:=256) (by omega)).congr fun j _=>by
       rw [Nat.zero_add,hend]<;>rfl
     have hold7:(w6.setCell ⟨w.heap.size+1,0,none⟩ (.int .u8 99)).rowIs w.heap.size 162 256 (fun j=>U8 ((fun _=>0) j)):=HR5.out.setOther (by simp) _
     have hb7:=HB5.out.setCell (p:=⟨w.heap.size+1,0,none⟩) (by simp) (.int .u8 99)
     have Hrow7:=iH hrow7;have Hold7:=iH hold7;have Hb7:=iH hb7
     clear hrow7 hold7 hb7
     go_wp2_with(first
      |(with_reducible refine jp rfl 162 (.tmp 1) rfl (w.heap.size+1) 0 256 JP rfl _ Hrow7.out Tryz.underlying162 rfl rfl ?_)
      |((with_reducible refine kV rfl 162 (.tmp 0) (.tmp 65) rfl w.heap.size 256 JP rfl rfl 162 (fun _=>0) Hold7.out rfl ?_);intro w7 hr7 hg7))
     refine bodyPost_ret (results_cell_row rfl _ _ w.heap.size 162 (kO 256 JP) (0,0) _ rfl (qD hr7) Tryz.underlying162 rfl (by rw [jI]<;>rfl)) rfl ⟨rfl,Hb7.out.trans (j8 hg7 Hb7.out.size iL)⟩
    ·have hone:(tms p 3==1)=false:=by rw [<-EP.out];exact j6t (n+1) (by omega) (by have:=Hn.out;omega)
     have Hone:=iH hone;clear hone
     go_wp2_with fail
     refine(ye p 3 _ _ rfl rfl _).mono ?_
     rintro e w' ⟨rfl,rfl⟩
     go_wp2_with fail
     refine(ye q 246 _ _ rfl rfl _).mono ?_
     rintro e w' ⟨rfl,rfl⟩
     have hone:=Hone.out
     go_wp2
     obtain⟨k,rfl⟩:∃k,gk=k+1:=⟨gk - 1,by have:=Hn.out;omega⟩
     go_roundg k
     case rel=>exact⟨n+1,by have:=Hn.out;omega,by rw [EP.out],by rw [EQ.out],HR5.out,HT5.out,HB5.out⟩
     case measure=>omega
theorem j5v(a:UInt8):tms a 2=dbl a:=by
 refine qd (p:=fun a=>tms a 2=dbl a) ?_ a
 decide+kernel
section
variable(T old:Nat->UInt8)(c:UInt8)
include T old c
theorem YF(k r n:Nat)(h:∀j,j<n->¬r=(k+j) % 4):kwF T old c (k+n) r=kwF T old c k r:=by
 induction n with
 |zero=>rfl
 |succ n ih=>
  rw [<-Nat.add_assoc,YE _ _ _ _ _ (h n (by omega)),ih fun j hj=>h j (by omega)]
theorem j2v(k:Nat)(hk:k<4):JH T old c k=kw0 T old c k ^^^ old k:=by
 unfold JH
 rw [ZL _ _ _ _ _ rfl,Nat.mod_eq_of_lt hk]
 have:=YF T old c 0 k k fun j hj=>by omega
 rw [Nat.zero_add]at this
 rw [this]<;>rfl
theorem j2u(k:Nat):JH T old c (k+4)=JH T old c k ^^^ old (k+4):=by
 unfold JH
 rw [ZL _ _ _ _ _ rfl,show(k+4) % 4=k % 4 by omega]
 have:=YF T old c (k+1) (k % 4) 3 fun j hj=>by omega
 rw [<-this]
end
theorem ZK(T key:Nat->UInt8)(j:Nat)(h:j<16):kz T key j=key j:=by
 unfold kz
 rw [Nat.div_eq_of_lt h,Nat.mod_eq_of_lt h]<;>rfl
theorem j2m(T key:Nat->UInt8)(n k:Nat)(h4:4<=n)(hn:¬n % 4=0)(hk:k<4):kz T key (4*n+k)=kz T key (4*n - 16+k) ^^^ kz T key (4*n - 4+k):=by
 obtain⟨i,hi⟩:∃i,(4*n+k) / 16=i+1:=⟨(4*n+k) / 16 - 1,by omega⟩
 unfold kz
 rw [hi,show(4*n - 16+k) / 16=i by omega,show(4*n - 4+k) / 16=i+1 by omega,show(4*n - 16+k) % 16=(4*n - 4+k) % 16+4 by omega,show(4*n+k) % 16=(4*n - 4+k) % 16+4 by omega]
 show JH _ _ _ _=_
 rw [j2u,UInt8.xor_comm]
 rfl
theorem j2n(T key:Nat->UInt8)(n k:Nat)(h4:4<=n)(hn:n % 4=0)(hk:k<4):kz T key (4*n+k)=kz T key (4*n - 16+k) ^^^ kw0 T (fun j=>kz T key (4*n - 16+j)) (kQ ((n - 1) / 4)) k:=by
 obtain⟨i,hi⟩:∃i,n / 4=i+1:=⟨n / 4 - 1,by omega⟩
 have e:∀j,j<16->kz T key (4*n - 16+j)=qF T key i j:=fun j hj=>by
  unfold kz
  rw [show(4*n - 16+j) / 16=i by omega,show(4*n - 16+j) % 16=j by omega]
 have e2:kz T key (4*n+k)=JH T (qF T key i) (kQ i) k:=by
  unfold kz
  rw [show(4*n+k) / 16=i+1 by omega,show(4*n+k) % 16=k by omega]
  rfl
 rw [e2,j2v _ _ _ _ hk,e k (by omega),UInt8.xor_comm,show(n - 1) / 4=i by omega]
 unfold kw0
 dsimp only
 rw [e 13 (by omega),e 14 (by omega),e 15 (by omega),e 12 (by omega)]
theorem zW{w:World}{base:Nat}{e:TypeId}{g n cap:Nat}{xs:List Value}(h:w.ownsRow base e 1 (.slice (some ⟨g,0,none⟩) n cap) n xs){p:Addr}(hne:g≠p.block)(u:Value):(w.setCell p u).ownsRow base e 1 (.slice (some ⟨g,0,none⟩) n cap) n xs:=
 h.kept (row:=some p.block) ⟨rfl,rfl,rfl,by simp [World.setCell],fun k _ hk=>iO (by rintro rfl;exact hk rfl)⟩ (.inr (by intro e;exact hne (by simpa [Value.ownBlock]using e)))
theorem KI{w:World}{base:Nat}{e t:TypeId}{g n cap b k:Nat}{xs:List Value}{f:Nat->Value}(h:w.ownsRow base e 1 (.slice (some ⟨g,0,none⟩) n cap) n xs)(hr:w.rowIs b t k f)(hne:e≠t):g≠b:=by
 rintro rfl
 obtain⟨c,hb,_⟩:=hr
 rcases h.2 with ⟨h2,_⟩|⟨g',cap',cur,hv,_,hh,_⟩
 ·cases h2
 ·injection hv with hv
  injection hv with hv
  injection hv with hv
  subst hv
  rw [hb]at hh
  injection hh with hh
  injection hh with _ ht
  exact hne ht.symm
theorem zu{n:Nat}{f g:Nat->UInt8}(h:∀j,j<n->f j=g j):jC n f=jC n g:=by
 unfold jC
 exact List.map_congr_left fun j hj=>h j (by simpa using hj)
theorem Ks(n:Nat)(f:Nat->UInt8):jC (n+1) f=jC n f++ [f n]:=by unfold jC;rw [List.range_succ,List.map_append]<;>rfl
theorem QJ(tb:Nat)(T:Nat->UInt8)(v:Value)(l:List UInt8)(hl:l.length=16)(w:World)(hT:ArrB w tb 0 256 T)(htb:tb<w.heap.size)(hv:Bs w w.heap.size v l):
 Calls Tryz.prog 156 #[v,.pointer (some ⟨tb,0,none⟩)] w fun e w'=>∃v',e=.returned v'/\LBsS w' (New w w') v' ((List.range 11).map fun i=>jC 16 fun j=>kz T (gb l) (16*i+j))/\Below w.heap.size w w':=by
 have hlen:=hv.len
 obtain⟨a,c,hve,hlc,hc,_,hcell⟩:=hv
 rw [hl]at hve
 subst hve
 have hv0:Bs w w.heap.size (.slice a 16 c) l:=⟨a,c,by rw [hl],hlc,hc,hlen,hcell⟩
 have hsrc:=hv0.src.2
 have hl0:(l.map U8)=(jC 16 (kz T (gb l))).map U8:=by
  congr 1
  exact((zu fun j hj=>ZK _ _ _ hj).trans (j1t l 16 hl)).symm
 rw [hl0]at hsrc
 obtain⟨K,hK⟩:∃K,K=kz T (gb l):=⟨_,rfl⟩
 rw [<-hK]at hsrc |-
 have HK:=iH hK;have Hsrc:=iH hsrc;have HT:=iH hT
 clear hK hsrc hT hcell hv0 hl0 hlen hlc hl
 have h0:w.ownsRow w.heap.size 5 1 (.slice none 0 0) 0 []:=World.ownsRow_nil _ _ _ _
 go_enter Tryz.func156,Tryz.ntmps156
 go_wp2_with(at_builtin;(with_reducible refine jn _ rfl (.const (.slice none 0 0)) (.tmp 12) 22 rfl w.heap.size 5 (.int .u8 0) 1 Tryz.underlying22 kC rfl (by omega) (.slice none 0 0) 0 [] rfl h0 a 16 c ((jC 16 K).map U8) rfl Hsrc.out (by omega) iL ?_);intro v1 w1 hown1 hg1 _ _)
 have hb1:=jj h0 hg1 iL iL
 clear h0
 go_loopw [5,6,7] (fun o rc i wr=>∃n:Nat,4<=n/\n<=44/\i=.int .i64 n/\rc=.int .i64 (bv (kQ ((n - 1) / 4)))/\wr.ownsRow w.heap.size 5 1 o (4*n) ((jC (4*n) K).map U8)/\Below w.heap.size w wr) (fun _ _ i _=>44 - (intOf i).toNat)
 case atStart=>exact⟨4,by omega,by omega,rfl,rfl,by simpa using hown1,hb1⟩
 case round=>
  clear hown1 hb1
  obtain⟨n,h4,hn,rfl,rfl,hown,hb⟩:=hrel
  by_cases hlt:n<44
  ·obtain⟨wo,rfl⟩:∃wo:World,wo=wr:=⟨_,rfl⟩
   obtain⟨g,cap,rfl,hg,hgl⟩:=hown.form (by omega)
   have hcl:∀j,j<4*n->wo.cell? ⟨g,j,none⟩=some (U8 (K j)):=fun j hj=>by
    rw [hown.cellAt j (by omega),jK _ _ (by rw [jr];exact hj),kx _ _ _ hj]
   have c0:=hcl (4*n - 4) (by omega)
   have c1:=hcl (4*n - 3) (by omega)
   have c2:=hcl (4*n - 2) (by omega)
   have c3:=hcl (4*n - 1) (by omega)
   have i0:(4:Int)*n - 4<4*n:=by omega
   have i1:(4:Int)*n - 3<4*n:=by omega
   have i2:(4:Int)*n - 2<4*n:=by omega
   have i3:(4:Int)*n - 1<4*n:=by omega
   have q0:(4:Int)<=4*n:=by omega
   have q1:(3:Int)<=4*n:=by omega
   have q2:(2:Int)<=4*n:=by omega
   have q3:(1:Int)<=4*n:=by omega
   have m0:(0:Int)<=4*n - 4:=by omega
   have m1:(0:Int)<=4*n - 3:=by omega
   have m2:(0:Int)<=4*n - 2:=by omega
   have m3:(0:Int)<=4*n - 1:=by omega
   obtain⟨x0,e0⟩:∃x,x=K (4*n - 4):=⟨_,rfl⟩
   obtain⟨x1,e1⟩:∃x,x=K (4*n - 3):=⟨_,rfl⟩
   obtain⟨x2,e2⟩:∃x,x=K (4*n - 2):=⟨_,rfl⟩
   obtain⟨x3,e3⟩:∃x,x=K (4*n - 1):=⟨_,rfl⟩
   rw [<-e0]at c0
   rw [<-e1]at c1
   rw [<-e2]at c2
   rw [<-e3]at c3
   have E0:=iH e0;have E1:=iH e1;have E2:=iH e2;have E3:=iH e3
   have Hown:=iH hown;have Hb:=iH hb;have Hcl:=iH hcl
   clear e0 e1 e2 e3 hown hb hcl
   go_wp2
   have s0:Value.int .i64 (IntKind.i64.wrap (4*(n:Int)))=.int .i64 (4*n):=by rw [IntWalk.i64_in _ (by omega)]
   have s1:Value.int .i64 (IntKind.i64.wrap (4*(n:Int) - 4))=.int .i64 (4*n - 4):=by rw [IntWalk.i64_in _ (by omega)]
   have s2:Value.int .i64 (IntKind.i64.wrap (4*(n:Int) - 3))=.int .i64 (4*n - 3):=by rw [IntWalk.i64_in _ (by omega)]
   have s3:Value.int .i64 (IntKind.i64.wrap (4*(n:Int) - 2))=.int .i64 (4*n - 2):=by rw [IntWalk.i64_in _ (by omega)]
   have s4:Value.int .i64 (IntKind.i64.wrap (4*(n:Int) - 1))=.int .i64 (4*n - 1):=by rw [IntWalk.i64_in _ (by omega)]
   have t1:(4*(n:Int) - 4).toNat=4*n - 4:=by omega
   have t2:(4*(n:Int) - 3).toNat=4*n - 3:=by omega
   have t3:(4*(n:Int) - 2).toNat=4*n - 2:=by omega
   have t4:(4*(n:Int) - 1).toNat=4*n - 1:=by omega
   go_region_held3 (fun W=>W.cell? ⟨g,4*n - 4,none⟩=some (U8 x0)/\W.cell? ⟨g,4*n - 3,none⟩=some (U8 x1)/\W.cell? ⟨g,4*n - 2,none⟩=some (U8 x2)/\W.cell? ⟨g,4*n - 1,none⟩=some (U8 x3)) (go_keep) (fail)
   clear s0 s1 s2 s3 s4 t1 t2 t3 t4 i0 i1 i2 i3 q0 q1 q2 q3 m0 m1 m2 m3 c0 c1 c2 c3
   have hblk:wo.heap.size<(wo.alloc (.cells #[U8 x0,U8 x1,U8 x2,U8 x3] 161)).heap.size:=by simp
   have hrow:(wo.alloc (.cells #[U8 x0,U8 x1,U8 x2,U8 x3] 161)).rowIs wo.heap.size 161 4 (fun r=>U8 (K (4*n - 4+r))):=by
    refine⟨_,iN,rfl,fun i hi=> ?_⟩
    dsimp only
    rcases i with _|_|_|_|i
    ·rw [Nat.add_zero,<-E0.out]<;>rfl
    ·rw [show 4*n - 4+(0+1)=4*n - 3 by omega,<-E1.out]<;>rfl
    ·rw [show 4*n - 4+(0+1+1)=4*n - 2 by omega,<-E2.out]<;>rfl
    ·rw [show 4*n - 4+(0+1+1+1)=4*n - 1 by omega,<-E3.out]<;>rfl
    ·omega
   have hown1:=Hown.out.alloc (.cells #[U8 x0,U8 x1,U8 x2,U8 x3] 161)
   have hb1:=Hb.out.alloc Hb.out.size (.cells #[U8 x0,U8 x1,U8 x2,U8 x3] 161)
   have hsz:=Hb.out.size
   have hgne:g≠wo.heap.size:=by omega
   have hrow:=hrow.drew
   have hown1:=hown1.drew
   have hb1:=hb1.drew
   obtain⟨w5,hw5⟩:∃w5,w5=(wo.alloc (.cells #[U8 x0,U8 x1,U8 x2,U8 x3] 161)).drew:=⟨_,rfl⟩
   have hTr:ArrB w5 tb 0 256 T:=by rw [hw5];exact ArrB.of_block ((HT.out.of_block (Hb.out.block tb htb)).alloc _) rfl
   rw [<-hw5]at hrow hown1 hb1 |-
   have htg:tb≠wo.heap.size:=by omega
   clear hw5 hblk
   have Hcl':=Hcl
   by_cases hm:n % 4=0
   ·have hd:((n:Int) % 4==0)=true:=by simp;omega
    have t0:=hTr.at_ x0.toNat_lt
    have t1:=hTr.at_ x1.toNat_lt
    have t2:=hTr.at_ x2.toNat_lt
    have t3:=hTr.at_ x3.toNat_lt
    rw [Nat.zero_add]at t0 t1 t2 t3
    have b0:=jP x0
    have b1:=jP x1
    have b2:=jP x2
    have b3:=jP x3
    have d0:=jT x0
    have d1:=jT x1
    have d2:=jT x2
    have d3:=jT x3
    have c0:=hrow.cell (i:=0) (by omega)
    have c1:=hrow.cell (i:=1) (by omega)
    have c2:=hrow.cell (i:=2) (by omega)
    have c3:=hrow.cell (i:=3) (by omega)
    rw [Nat.add_zero,<-E0.out]at c0
    rw [show 4*n - 4+1=4*n - 3 by omega,<-E1.out]at c1
    rw [show 4*n - 4+2=4*n - 2 by omega,<-E2.out]at c2
    rw [show 4*n - 4+3=4*n - 1 by omega,<-E3.out]at c3
    have f0:=hrow.frozen 0
    have f1:=hrow.frozen 1
    have f2:=hrow.frozen 2
    have f3:=hrow.frozen 3
    go_wp2
    refine wp_region_still_tail 28 (by kernel_rfl) (by kernel_rfl) ?_
    simp only [List.take_succ_cons,List.take_zero,List.drop_succ_cons,List.drop_zero]
    repeat(refine wpStill_step (fun K hK=> ?_);go_simp;(try go_bits);refine hK _ ?_;clear hK K)
    refine wpStill_nil ?_
    go_wp2_with fail
    have hrow6:(((((w5.setCell ⟨wo.heap.size,0,none⟩ (U8 (T x1.toNat ^^^ kQ ((n - 1) / 4)))).setCell ⟨wo.heap.size,1,none⟩ (U8 (T x2.toNat))).setCell ⟨wo.heap.size,2,none⟩ (U8 (T x3.toNat))).setCell ⟨wo.heap.size,3,none⟩ (U8 (T x0.toNat))).drew).rowIs wo.heap.size 161 4
     (fun r=>U8 (kw0 T (fun j=>K (4*n - 16+j)) (kQ ((n - 1) / 4)) r)):=
     ((((hrow.set 0 _).set 1 _).set 2 _).set 3 _).drew.congr fun r hr=>by
       unfold kw0
       dsimp only
       rw [show 4*n - 16+13=4*n - 3 by omega,show 4*n - 16+14=4*n - 2 by omega,show 4*n - 16+15=4*n - 1 by omega,show 4*n - 16+12=4*n - 4 by omega,<-E0.out,<-E1.out,<-E2.out,<-E3.out]
       rcases r with _|_|_|_|r
       ·rfl
       ·rfl
       ·rfl
       ·rfl
       ·omega
    have hown6:=((((zW hown1 (p:=⟨wo.heap.size,0,none⟩) hgne (U8 (T x1.toNat ^^^ kQ ((n - 1) / 4)))) |> fun h=>zW h (p:=⟨wo.heap.size,1,none⟩) hgne (U8 (T x2.toNat))) |> fun h=>zW h (p:=⟨wo.heap.size,2,none⟩) hgne (U8 (T x3.toNat))) |> fun h=>zW h (p:=⟨wo.heap.size,3,none⟩) hgne (U8 (T x0.toNat))).drew
    have hb6:=((((hb1.setCell (p:=⟨wo.heap.size,0,none⟩) hsz (U8 (T x1.toNat ^^^ kQ ((n - 1) / 4)))).setCell (p:=⟨wo.heap.size,1,none⟩) hsz (U8 (T x2.toNat))).setCell (p:=⟨wo.heap.size,2,none⟩) hsz (U8 (T x3.toNat))).setCell (p:=⟨wo.heap.size,3,none⟩) hsz (U8 (T x0.toNat))).drew
    have Hrow6:=iH hrow6;have Hown6:=iH hown6;have Hb6:=iH hb6
    clear hrow6 hown6 hb6 hrow hown1 hb1 t0 t1 t2 t3 c0 c1 c2 c3 f0 f1 f2 f3 b0 b1 b2 b3 d0 d1 d2 d3 hTr
    refine(ye _ 2 _ _ rfl rfl _).mono ?_
    rintro e w' ⟨rfl,rfl⟩
    go_wp2
    go_loopw [5,9] (fun o k wi=>∃m:Nat,m<=4/\k=.int .i64 m/\wi.ownsRow w.heap.size 5 1 o (4*n+m) ((jC (4*n+m) K).map U8)/\wi.rowIs wo.heap.size 161 4 (fun r=>U8 (kw0 T (fun j=>K (4*n - 16+j)) (kQ ((n - 1) / 4)) r))/\Below w.heap.size w wi) (fun _ k _=>4 - (intOf k).toNat)
    case atStart=>exact⟨0,by omega,rfl,Hown6.out,Hrow6.out,Hb6.out⟩
    case round=>
     obtain⟨m,hm4,rfl,hown,hrow,hb⟩:=hrel
     by_cases hlt':m<4
     ·obtain⟨g2,cap2,rfl,hg2,hgl2⟩:=hown.form (by omega)
      have hx:=hrow.cell (i:=m) hlt'
      have hy:wr.cell? ⟨g2,4*n - 16+m,none⟩=some (U8 (K (4*n - 16+m))):=by
       rw [hown.cellAt _ (by omega),jK _ _ (by rw [jr];omega),kx _ _ _ (by omega)]
      have hne:=KI hown hrow (by decide)
      have z0:(0:Int)<=4*n - 16+m:=by omega
      have z1:(4:Int)*n - 16+m<4*n+m:=by omega
      have z2:(m:Int)<4:=by omega
      have Hown:=iH ((hown.alloc (.cells #[U8 (K (4*n - 16+m) ^^^ kw0 T (fun j=>K (4*n - 16+j)) (kQ ((n - 1) / 4)) m)] 5)).drew)
      have Hrow:=iH hrow;have Hb:=iH hb;have Hne:=iH hne
      have Hsrc:=iH (show SrcAt ((wr.alloc (.cells #[U8 (K (4*n - 16+m) ^^^ kw0 T (fun j=>K (4*n - 16+j)) (kQ ((n - 1) / 4)) m)] 5)).drew) (some ⟨wr.heap.size,0,none⟩) 1 [U8 (K (4*n - 16+m) ^^^ kw0 T (fun j=>K (4*n - 16+j)) (kQ ((n - 1) / 4)) m)] from SrcAt.one _ _ rfl)
      clear hown hrow hb hne
      go_wp2
      have s0:Value.int .i64 (IntKind.i64.wrap (4*(n:Int)))=.int .i64 (4*n):=by rw [IntWalk.i64_in _ (by omega)]
      have s1:Value.int .i64 (IntKind.i64.wrap (4*(n:Int) - 16))=.int .i64 (4*n - 16):=by rw [IntWalk.i64_in _ (by omega)]
      have s2:Value.int .i64 (IntKind.i64.wrap (4*(n:Int) - 16+m))=.int .i64 (4*n - 16+m):=by rw [IntWalk.i64_in _ (by omega)]
      have t1:(4*(n:Int) - 16+m).toNat=4*n - 16+m:=by omega
      go_region_held3 (fun W=>W.cell? ⟨g2,4*n - 16+m,none⟩=some (U8 (K (4*n - 16+m)))/\W.cell? ⟨wo.heap.size,m,none⟩=some (U8 (kw0 T (fun j=>K (4*n - 16+j)) (kQ ((n - 1) / 4)) m)))
       (first
         |go_keep
         |(refine⟨?_,?_⟩
           ·rw [hold7.cellAt _ (by omega),jK _ _ (by rw [jr];omega),kx _ _ _ (by omega)]
           ·exact(hg7.cell_far _ (by have:=Hrow.out.lt;simp;omega) (by intro e;exact Hne.out (by simpa [Value.ownBlock]using e.symm))).trans ((Hrow.out.alloc _).drew.cell (i:=m) hlt')))
       (((with_reducible refine xO _ rfl (.tmp 80) (.tmp 93) 22 rfl w.heap.size 5 (.int .u8 0) 1 Tryz.underlying22 kC rfl (by omega) (.slice (some ⟨g2,0,none⟩) (4*n+m) cap2) (4*n+m) ((jC (4*n+m) K).map U8) rfl Hown.out (some ⟨wr.heap.size,0,none⟩) 1 1 [U8 (K (4*n - 16+m) ^^^ kw0 T (fun j=>K (4*n - 16+j)) (kQ ((n - 1) / 4)) m)] rfl Hsrc.out (by omega) (by have:=Hb.out.size;simp;omega) ?_);intro v7 w7 hown7 hg7 hat7 hold7))
      clear s0 s1 s2 t1
      have hb7:=jj Hown.out hg7 iL (by have:=Hb.out.size;simp;omega)
      have hrow7:=((Hrow.out.alloc (.cells #[U8 (K (4*n - 16+m) ^^^ kw0 T (fun j=>K (4*n - 16+j)) (kQ ((n - 1) / 4)) m)] 5)).drew).of_block (hg7.block wo.heap.size (by have:=Hrow.out.lt;simp;omega) (by intro e;exact Hne.out (by simpa [Value.ownBlock]using e.symm)))
      have hK7:K (4*n - 16+m) ^^^ kw0 T (fun j=>K (4*n - 16+j)) (kQ ((n - 1) / 4)) m=K (4*n+m):=by rw [HK.out];exact(j2n T (gb l) n m h4 hm hlt').symm
      rw [hK7]at hown7 hb7
      clear hg7 hat7 hold7
      go_wp2
      go_roundw
      case rel=>exact⟨m+1,by omega,by go_num,by rw [<-Nat.add_assoc,Ks,List.map_append];exact hown7,hrow7,(Hb.out.alloc Hb.out.size _).drew.trans hb7⟩
      case measure=>simp [intOf]<;>omega
     ·have hm44:m=4:=by omega
      subst hm44
      go_wp2
      go_roundw
      case rel=>exact⟨n+1,by omega,by omega,by go_num,by rw [j5v,show(n+1 - 1) / 4=(n - 1) / 4+1 by omega]<;>rfl,hown,hb⟩
      case measure=>simp [intOf]<;>omega
   ·have hd:((n:Int) % 4==0)=false:=by simp;omega
    have Hrow6:=iH hrow;have Hown6:=iH hown1;have Hb6:=iH hb1
    clear hrow hown1 hb1 hTr
    go_wp2
    go_loopw [5,9] (fun o k wi=>∃m:Nat,m<=4/\k=.int .i64 m/\wi.ownsRow w.heap.size 5 1 o (4*n+m) ((jC (4*n+m) K).map U8)/\wi.rowIs wo.heap.size 161 4 (fun r=>U8 ((fun r=>K (4*n - 4+r)) r))/\Below w.heap.size w wi) (fun _ k _=>4 - (intOf k).toNat)
    case atStart=>exact⟨0,by omega,rfl,Hown6.out,Hrow6.out,Hb6.out⟩
    case round=>
     obtain⟨m,hm4,rfl,hown,hrow,hb⟩:=hrel
     by_cases hlt':m<4
     ·obtain⟨g2,cap2,rfl,hg2,hgl2⟩:=hown.form (by omega)
      have hx:=hrow.cell (i:=m) hlt'
      have hy:wr.cell? ⟨g2,4*n - 16+m,none⟩=some (U8 (K (4*n - 16+m))):=by
       rw [hown.cellAt _ (by omega),jK _ _ (by rw [jr];omega),kx _ _ _ (by omega)]
      have hne:=KI hown hrow (by decide)
      have z0:(0:Int)<=4*n - 16+m:=by omega
      have z1:(4:Int)*n - 16+m<4*n+m:=by omega
      have z2:(m:Int)<4:=by omega
      have Hown:=iH ((hown.alloc (.cells #[U8 (K (4*n - 16+m) ^^^ (fun r=>K (4*n - 4+r)) m)] 5)).drew)
      have Hrow:=iH hrow;have Hb:=iH hb;have Hne:=iH hne
      have Hsrc:=iH (show SrcAt ((wr.alloc (.cells #[U8 (K (4*n - 16+m) ^^^ (fun r=>K (4*n - 4+r)) m)] 5)).drew) (some ⟨wr.heap.size,0,none⟩) 1 [U8 (K (4*n - 16+m) ^^^ (fun r=>K (4*n - 4+r)) m)] from SrcAt.one _ _ rfl)
      clear hown hrow hb hne
      go_wp2
      have s0:Value.int .i64 (IntKind.i64.wrap (4*(n:Int)))=.int .i64 (4*n):=by rw [IntWalk.i64_in _ (by omega)]
      have s1:Value.int .i64 (IntKind.i64.wrap (4*(n:Int) - 16))=.int .i64 (4*n - 16):=by rw [IntWalk.i64_in _ (by omega)]
      have s2:Value.int .i64 (IntKind.i64.wrap (4*(n:Int) - 16+m))=.int .i64 (4*n - 16+m):=by rw [IntWalk.i64_in _ (by omega)]
      have t1:(4*(n:Int) - 16+m).toNat=4*n - 16+m:=by omega
      go_region_held3 (fun W=>W.cell? ⟨g2,4*n - 16+m,none⟩=some (U8 (K (4*n - 16+m)))/\W.cell? ⟨wo.heap.size,m,none⟩=some (U8 ((fun r=>K (4*n - 4+r)) m)))
       (first
         |go_keep
         |(refine⟨?_,?_⟩
           ·rw [hold7.cellAt _ (by omega),jK _ _ (by rw [jr];omega),kx _ _ _ (by omega)]
           ·exact(hg7.cell_far _ (by have:=Hrow.out.lt;simp;omega) (by intro e;exact Hne.out (by simpa [Value.ownBlock]using e.symm))).trans ((Hrow.out.alloc _).drew.cell (i:=m) hlt')))
       (((with_reducible refine xO _ rfl (.tmp 80) (.tmp 93) 22 rfl w.heap.size 5 (.int .u8 0) 1 Tryz.underlying22 kC rfl (by omega) (.slice (some ⟨g2,0,none⟩) (4*n+m) cap2) (4*n+m) ((jC (4*n+m) K).map U8) rfl Hown.out (some ⟨wr.heap.size,0,none⟩) 1 1 [U8 (K (4*n - 16+m) ^^^ (fun r=>K (4*n - 4+r)) m)] rfl Hsrc.out (by omega) (by have:=Hb.out.size;simp;omega) ?_);intro v7 w7 hown7 hg7 hat7 hold7))
      clear s0 s1 s2 t1
      have hb7:=jj Hown.out hg7 iL (by have:=Hb.out.size;simp;omega)
      have hrow7:=((Hrow.out.alloc (.cells #[U8 (K (4*n - 16+m) ^^^ (fun r=>K (4*n - 4+r)) m)] 5)).drew).of_block (hg7.block wo.heap.size (by have:=Hrow.out.lt;simp;omega) (by intro e;exact Hne.out (by simpa [Value.ownBlock]using e.symm)))
      have hK7:K (4*n - 16+m) ^^^ (fun r=>K (4*n - 4+r)) m=K (4*n+m):=by rw [HK.out];exact(j2m T (gb l) n m h4 hm hlt').symm
      rw [hK7]at hown7 hb7
      clear hg7 hat7 hold7
      go_wp2
      go_roundw
      case rel=>exact⟨m+1,by omega,by go_num,by rw [<-Nat.add_assoc,Ks,List.map_append];exact hown7,hrow7,(Hb.out.alloc Hb.out.size _).drew.trans hb7⟩
      case measure=>simp [intOf]<;>omega
     ·have hm44:m=4:=by omega
      subst hm44
      go_wp2
      go_roundw
      case rel=>exact⟨n+1,by omega,by omega,by go_num,by rw [show(n+1 - 1) / 4=(n - 1) / 4 by omega],hown,hb⟩
      case measure=>simp [intOf]<;>omega
  ·have hd44:decide ((n:Int)<44)=false:=by simp;omega
   obtain⟨wo,rfl⟩:∃wo:World,wo=wr:=⟨_,rfl⟩
   obtain⟨g,cap,rfl,hg,hgl⟩:=hown.form (by omega)
   have hcap:4*n<=cap/\cap<=9223372036854775807:=by
    rcases hown.2 with ⟨h,_⟩|⟨g',cap',cur,h,_,_,h1,h2,_⟩
    ·cases h
    ·injection h with _ _ h3
     subst h3
     exact⟨h1,by unfold maxLen at h2;exact h2⟩
   obtain⟨hc1,hc2⟩:=hcap
   have Hown:=iH hown;have Hb:=iH hb
   clear hown hb
   go_wp2
   go_loopw [10,11] (fun o i wi=>∃(q:Nat) (xs:List Value),q<=11/\i=.int .i64 q/\wi.ownsRow wo.heap.size 22 1 o q xs/\Each wi (Off wo.heap.size wi o) xs ((List.range q).map fun i=>jC 16 fun j=>K (16*i+j))/\Below wo.heap.size wo wi) (fun _ i _=>11 - (intOf i).toNat)
   case atStart=>exact⟨0,[],by omega,rfl,World.ownsRow_nil _ _ _ _,Each.nil _ _,Below.refl _ _⟩
   case round=>
    obtain⟨q,xs,hq,rfl,hown,hE,hbo⟩:=hrel
    by_cases hlt':q<11
    ·have z0:(0:Int)<=16*q:=by omega
     have z1:(16:Int)*q+16<=cap:=by omega
     have z2:(16:Int)*q<=16*q+16:=by omega
     have z3:¬cap=16*q:=by omega
     have z4:(q:Int)<11:=by omega
     have Hown2:=iH hown;have HE:=iH hE;have Hbo:=iH hbo
     clear hown hE hbo
     have hs8:SrcAt wr (some ⟨g,16*q,none⟩) 16 ((jC 16 fun j=>K (16*q+j)).map U8):=by
      refine⟨by simp [jC],fun _=>⟨_,rfl,fun j u hu=> ?_⟩,fun u hu=> ?_⟩
      ·have hj:j<16:=by
        rcases Nat.lt_or_ge j 16 with h|h
        ·exact h
        ·rw [List.getElem?_eq_none (by simpa [jC]using h)]at hu;cases hu
       rw [qN]
       refine((Hbo.out.cell (p:=⟨g,16*q+j,none⟩) hgl).trans ?_)
       rw [Hown.out.cellAt _ (by omega),jK _ _ (by rw [jr];omega),kx _ _ _ (by omega),<-hu,jK _ _ (by rw [jr];omega),kx _ _ _ (by omega)]
      ·obtain⟨b,_,rfl⟩:=List.mem_map.1 hu
       rfl
     have e16:16*q+16 - 16*q=16:=by omega
     have hs9:SrcAt wr (some ⟨g,16*q,none⟩) (16*q+16 - 16*q) ((jC 16 fun j=>K (16*q+j)).map U8):=by rw [e16];exact hs8
     clear hs8
     have Hs8:=iH hs9;have E16:=iH e16;clear hs9 e16
     have h0:wr.ownsRow wr.heap.size 5 1 (.slice none 0 0) 0 []:=World.ownsRow_nil _ _ _ _
     go_wp2_with(first
      |(at_builtin
        (with_reducible refine jn _ rfl (.const (.slice none 0 0)) (.tmp 106) 22 rfl wr.heap.size 5 (.int .u8 0) 1 Tryz.underlying22 kC rfl (by omega) (.slice none 0 0) 0 [] rfl h0 (some ⟨g,16*q,none⟩) (16*q+16 - 16*q) (cap - 16*q) ((jC 16 fun j=>K (16*q+j)).map U8) rfl Hs8.out (by omega) iL ?_)
        intro v8 w8 hown8 hg8 _ _
        rw [E16.out,Nat.zero_add]at hown8
        obtain⟨g8,cap8,rfl,hg8a,hg8b⟩:=hown8.form (by omega)
        have hb8:=jj h0 hg8 iL iL
        have HV8:=iH ((BsS.of_own hown8 (by rw [jr];omega)).keep (S':=Off wo.heap.size w8 u10) fun b hs _=>⟨rfl,hs.2,fun e=>by
         have:=Hown2.out.lt b e
         have:=hs.1
         omega,by have:=hs.1;have:=Hbo.out.size;omega⟩)
        have HE8:=iH (HE.out.keep (w':=w8) (S':=Off wo.heap.size w8 u10) fun b hs hlt=>⟨hb8.block b hlt,by have:=hb8.size;omega,hs.2⟩)
        have Hown8:=iH ((kT Hown2.out hb8).alloc (.cells #[.slice (some ⟨g8,0,none⟩) 16 cap8] 22))
        have Hbo8:=iH (Hbo.out.trans (hb8.mono Hbo.out.size))
        have Hsrc8:=iH (SrcAt.one (w:=w8) (.slice (some ⟨g8,0,none⟩) 16 cap8) 22 rfl)
        clear hown8 hg8 hb8)
      |(at_builtin
        (with_reducible refine jn _ rfl (.tmp 99) (.tmp 108) 123 rfl wo.heap.size 22 (.slice none 0 0) 24 Tryz.underlying123 VN rfl (by omega) u10 q xs rfl Hown8.out (some ⟨w8.heap.size,0,none⟩) 1 1 [.slice (some ⟨g8,0,none⟩) 16 cap8] rfl Hsrc8.out (by omega) (by have:=Hbo8.out.size;simp;omega) ?_)
        intro v9 w9 hown9 hg9 hat9 _))
     have hE9:=((HE8.out.snoc HV8.out).keep (w':=w8.alloc (.cells #[.slice (some ⟨g8,0,none⟩) 16 cap8] 22)) (S':=Off wo.heap.size (w8.alloc (.cells #[.slice (some ⟨g8,0,none⟩) 16 cap8] 22)) u10) fun b hs hlt=>⟨Below.heap_alloc _ _ _ hlt,by simp;omega,hs.2⟩).grown hg9 hat9
     have hb9:=jj Hown8.out hg9 iL (by have:=Hbo8.out.size;simp;omega)
     go_wp2
     go_roundw
     case rel=>exact⟨q+1,_,by omega,by go_num,hown9,by rw [List.range_succ,List.map_append];exact hE9,(Hbo8.out.alloc Hbo8.out.size _).trans hb9⟩
     case measure=>simp [intOf]<;>omega
    ·have hq11:q=11:=by omega
     subst hq11
     go_wp2
     go_ret
     exact⟨_,rfl,LBsS.of_own (B:=w.heap.size) hown hE (fun b hs=>⟨by have:=hs.2.2;have:=Hb.out.size;omega,hs.1⟩) Hb.out.size,Hb.out.trans (hbo.mono Hb.out.size)⟩
theorem j4j(g:Nat)(t:TypeId)(f:Nat->UInt8)(v:Value)(l:List UInt8)(hl:l.length=16)(w:World)(hg:w.rowIs g t 16 (fun j=>U8 (f j)))(hv:BsS w (·≠g) v l):
 Calls Tryz.prog 157 #[.pointer (some ⟨g,0,none⟩),v] w fun e w'=>e=.returned (.tuple #[])/\w'.rowIs g t 16 (fun j=>U8 (f j ^^^ gb l j))/\w.grownBy w' (some g):=by
 obtain⟨a,c,hve,hlc,hc,hlen,hcell⟩:=hv
 obtain⟨b,off,rfl,hne,hx⟩:=hcell (by omega)
 have hX:ArrB w b off 16 (gb l):=by rw [<-hl];exact hx
 rw [hl]at hve hlc
 subst hve
 clear hcell hx hl hlen
 go_enter Tryz.func157,Tryz.ntmps157
 go_wp2
 go_loopw [4] (fun i wr=>∃n:Nat,n<=16/\i=.int .i64 n/\wr.rowIs g t 16 (fun j=>U8 (qI n (fun j=>f j ^^^ gb l j) f j))/\w.grownBy wr (some g)) (fun i _=>16 - (intOf i).toNat)
 case atStart=>exact⟨0,by omega,rfl,jy hg _,World.grownBy.refl _ _⟩
 case round=>
  obtain⟨n,hn,rfl,hr,hgr⟩:=hrel
  by_cases hlt:n<16
  ·have hc1:=jJ hr hlt
   have hf:=hr.frozen n
   have hc2:=(hX.only hgr hne).at_ hlt
   have hn16:(n:Int)<16:=by omega
   go_wp2
   refine wp_region_still_tail 12 (by kernel_rfl) (by kernel_rfl) ?_
   simp only [List.take_succ_cons,List.take_zero,List.drop_succ_cons,List.drop_zero]
   repeat(refine wpStill_step (fun K hK=> ?_);go_simp;(try go_bits);refine hK _ ?_;clear hK K)
   refine wpStill_nil ?_
   go_wp2
   go_roundw
   case rel=>exact⟨n+1,by omega,by go_num,(jE hr rfl).drew,kS (j7 hgr (.inl rfl) _)⟩
   case measure=>simp [intOf]<;>omega
  ·go_wp2
   go_end0
   exact⟨rfl,jx hr (by omega),hgr⟩
abbrev I64(b:UInt8):Value:=.int .i64 (bv b)
def j60(n:Nat)(f:Nat->UInt8):Array Value:=((List.range n).map fun i=>I64 (f i)).toArray
theorem j4z(n:Nat)(f:Nat->UInt8)(i:Nat)(h:i<n):(j60 n f)[i]?=some (I64 (f i)):=by simp [j60,h]
theorem VM(n:Nat)(f:Nat->UInt8):(j60 n f).size=n:=by simp [j60]
theorem UU(w:World)(n:Nat)(t:TypeId)(f:Nat->UInt8):(w.alloc (.cells (j60 n f) t)).rowIs w.heap.size t n (fun j=>I64 (f j)):=
 ⟨_,iN,VM n f,fun i hi=>j4z n f i hi⟩
def yz(row f:Nat->UInt8)(c r n:Nat):UInt8:=(List.range n).foldl (fun s k=>s ^^^ tms (f (4*c+k)) (row ((k+4 - r) % 4))) 0
theorem za(row f:Nat->UInt8)(c r n:Nat):yz row f c r (n+1)=yz row f c r n ^^^ tms (f (4*c+n)) (row ((n+4 - r) % 4)):=by
 unfold yz;rw [List.range_succ,List.foldl_append]<;>rfl
def JV(row f:Nat->UInt8)(i:Nat):UInt8:=yz row f (i / 4) (i % 4) 4
def yf(row f:Nat->UInt8)(c r k j:Nat):UInt8:=if j<r then yz row f c j 4 else if j=r then yz row f c r k else 0
theorem V8(row f:Nat->UInt8)(c r j:Nat):yf row f c r 4 j=yf row f c (r+1) 0 j:=by
 unfold yf
 by_cases h1:j<r
 ·rw [iT h1,iT (by omega)]
 ·rw [iF h1]
  by_cases h2:j=r
  ·subst h2;rw [iT rfl,iT (by omega)]
  ·rw [iF h2,iF (by omega)]
   by_cases h3:j=r+1
   ·rw [iT h3]<;>rfl
   ·rw [iF h3]
theorem Va(row f:Nat->UInt8)(c r k j:Nat)(v:UInt8)(hv:v=yz row f c r (k+1)):(if j=r then I64 v else I64 (yf row f c r k j))=I64 (yf row f c r (k+1) j):=by
 unfold yf
 by_cases h1:j<r
 ·rw [iF (by omega),iT h1,iT h1]
 ·by_cases h2:j=r
  ·subst h2;rw [iT rfl,iF (by omega),iT rfl,hv]
  ·rw [iF h2,iF h1,iF h2,iF h1,iF h2]
theorem KO(g:Nat)(t:TypeId)(f row:Nat->UInt8)(a:Array Value)(ha:a=j60 4 row)(w:World)(hg:w.rowIs g t 16 (fun j=>U8 (f j))):
 Calls Tryz.prog 158 #[.pointer (some ⟨g,0,none⟩),.agg a] w fun e w'=>e=.returned (.tuple #[])/\w'.rowIs g t 16 (fun j=>U8 (JV row f j))/\w.grownBy w' (some g):=by
 subst ha
 have hgl:=hg.lt
 go_enter Tryz.func158,Tryz.ntmps158
 go_wp2
 go_loopw [4] (fun i wr=>∃c:Nat,c<=4/\i=.int .i64 c/\wr.rowIs g t 16 (fun j=>U8 (qI (4*c) (JV row f) f j))/\wr.rowIs w.heap.size 64 4 (fun j=>I64 (row j))/\w.grownBy wr (some g)) (fun i _=>4 - (intOf i).toNat)
 case atStart=>exact⟨0,by omega,rfl,jy (hg.alloc _) _,UU _ _ _ _,jQ (World.grownBy.refl _ _) _⟩
 case round=>
  obtain⟨c,hc,rfl,hr,hw,hgr⟩:=hrel
  obtain⟨wo,rfl⟩:∃wo:World,wo=wr:=⟨_,rfl⟩
  have hsz:=hgr.size
  have hwl:=hw.lt
  by_cases hlt:c<4
  ·have hd:decide ((c:Int)<4)=true:=by simp;omega
   have Hr:=iH hr;have Hw:=iH hw;have Hgr:=iH hgr
   clear hr hw hgr
   go_wp2
   have hx0:(wo.alloc (.cells #[.int .i64 0,.int .i64 0,.int .i64 0,.int .i64 0] 64)).rowIs wo.heap.size 64 4 (fun j=>I64 (yf row f c 0 0 j)):=by
    refine⟨_,iN,rfl,fun i hi=> ?_⟩
    have e:yf row f c 0 0 i=0:=by
     unfold yf
     rw [iF (by omega)]
     split
     ·rfl
     ·rfl
    dsimp only
    rw [e]
    rcases i with _|_|_|_|i
    ·rfl
    ·rfl
    ·rfl
    ·rfl
    ·omega
   go_loopw [6] (fun i w2=>∃r:Nat,r<=4/\i=.int .i64 r/\w2.rowIs g t 16 (fun j=>U8 (qI (4*c) (JV row f) f j))/\w2.rowIs w.heap.size 64 4 (fun j=>I64 (row j))/\w2.rowIs wo.heap.size 64 4 (fun j=>I64 (yf row f c r 0 j))/\w.grownBy w2 (some g)) (fun i _=>4 - (intOf i).toNat)
   case atStart=>exact⟨0,by omega,rfl,Hr.out.alloc _,Hw.out.alloc _,hx0,jQ Hgr.out _⟩
   case round=>
    clear hx0 Hr Hw Hgr
    obtain⟨r,hr4,rfl,hr,hw,hx,hgr⟩:=hrel
    by_cases hlt2:r<4
    ·have hd2:decide ((r:Int)<4)=true:=by simp;omega
     have Hr:=iH hr;have Hw:=iH hw;have Hx:=iH hx;have Hgr:=iH hgr
     clear hr hw hx hgr
     go_wp2
     go_loopw [7] (fun i w3=>∃k:Nat,k<=4/\i=.int .i64 k/\w3.rowIs g t 16 (fun j=>U8 (qI (4*c) (JV row f) f j))/\w3.rowIs w.heap.size 64 4 (fun j=>I64 (row j))/\w3.rowIs wo.heap.size 64 4 (fun j=>I64 (yf row f c r k j))/\w.grownBy w3 (some g)) (fun i _=>4 - (intOf i).toNat)
     case atStart=>exact⟨0,by omega,rfl,Hr.out,Hw.out,Hx.out,Hgr.out⟩
     case round=>
      clear Hr Hw Hx Hgr
      obtain⟨k,hk4,rfl,hr,hw,hx,hgr⟩:=hrel
      by_cases hlt3:k<4
      ·have hc1:=hx.cell (i:=r) hlt2
       have hxr:yf row f c r k r=yz row f c r k:=by unfold yf;rw [iF (by omega),iT rfl]
       rw [hxr]at hc1
       clear hxr
       have hf1:=hx.frozen r
       have hc2:=hr.cell (i:=4*c+k) (by omega)
       rw [X7 (by omega)]at hc2
       have hq:(((k:Int) - (r:Int)) % 4).toNat=(k+4 - r) % 4:=by omega
       have hc3:wr.cell? ⟨w.heap.size,(((k:Int) - (r:Int)) % 4).toNat,none⟩=some (I64 (row ((k+4 - r) % 4))):=by rw [hq];exact hw.cell (by omega)
       clear hq
       have hi1:(r:Int)<4:=by omega
       have hi2:(4:Int)*c+k<16:=by omega
       have hi3:(0:Int)<=4*c+k:=by omega
       have hi4:0<=((k:Int) - (r:Int)) % 4:=by omega
       have hi5:((k:Int) - (r:Int)) % 4<4:=by omega
       go_wp2
       refine wp_region_still_tail 22 (by kernel_rfl) (by kernel_rfl) ?_
       simp only [List.take_succ_cons,List.take_zero,List.drop_succ_cons,List.drop_zero]
       repeat(refine wpStill_step (fun K hK=> ?_);go_simp;(try go_bits);refine hK _ ?_;clear hK K)
       refine wpStill_step (fun K hK=> ?_)
       go_simp
       refine⟨_,Ze _ _ _,hK _ ?_⟩
       clear hK K
       repeat(refine wpStill_step (fun K hK=> ?_);go_simp;(try go_bits);refine hK _ ?_;clear hK K)
       refine wpStill_nil ?_
       go_wp2
       go_roundw
       case rel=>
        exact⟨k+1,by omega,by go_num,(hr.setOther (by simp;omega) _).drew,(hw.setOther (by simp;omega) _).drew,((hx.set r _).congr fun j _=>Va row f c r k j _ (za row f c r k).symm).drew,kS (j7 hgr (.inr (by simp;omega)) _)⟩
       case measure=>simp [intOf]<;>omega
      ·go_wp2
       have hk44:k=4:=by omega
       subst hk44
       go_roundw
       case rel=>exact⟨r+1,by omega,by go_num,hr,hw,hx.congr fun j _=>by rw [V8],hgr⟩
       case measure=>simp [intOf]<;>omega
    ·have hd3:decide ((r:Int)<4)=false:=by simp;omega
     have Hr:=iH hr;have Hw:=iH hw;have Hx:=iH hx;have Hgr:=iH hgr
     clear hr hw hx hgr
     go_wp2
     go_loopw [8] (fun i w4=>∃q:Nat,q<=4/\i=.int .i64 q/\w4.rowIs g t 16 (fun j=>U8 (qI (4*c+q) (JV row f) f j))/\w4.rowIs w.heap.size 64 4 (fun j=>I64 (row j))/\w4.rowIs wo.heap.size 64 4 (fun j=>I64 (yz row f c j 4))/\w.grownBy w4 (some g)) (fun i _=>4 - (intOf i).toNat)
     case atStart=>exact⟨0,by omega,rfl,Hr.out,Hw.out,Hx.out.congr fun j hj=>by unfold yf;rw [iT (by omega)],Hgr.out⟩
     case round=>
      clear Hr Hw Hx Hgr
      obtain⟨q,hq4,rfl,hr,hw,hx,hgr⟩:=hrel
      by_cases hlt3:q<4
      ·have hc1:=hx.cell (i:=q) hlt3
       have hc2:=hr.cell (i:=4*c+q) (by omega)
       have hf1:=hr.frozen (4*c+q)
       have hi1:(q:Int)<4:=by omega
       have hi2:(4:Int)*c+q<16:=by omega
       have hi3:(0:Int)<=4*c+q:=by omega
       have hv:yz row f c q 4=JV row f (4*c+q):=by
        unfold JV
        rw [show(4*c+q) / 4=c by omega,show(4*c+q) % 4=q by omega]
       have Hv:=iH hv;clear hv
       go_wp2
       refine wp_region_still_tail 11 (by kernel_rfl) (by kernel_rfl) ?_
       simp only [List.take_succ_cons,List.take_zero,List.drop_succ_cons,List.drop_zero]
       repeat(refine wpStill_step (fun K hK=> ?_);go_simp;(try go_bits);refine hK _ ?_;clear hK K)
       refine wpStill_nil ?_
       go_wp2
       go_roundw
       case rel=>exact⟨q+1,by omega,by go_num,(jE hr Hv.out).drew,(hw.setOther (by simp;omega) _).drew,(hx.setOther (by simp;omega) _).drew,kS (j7 hgr (.inl rfl) _)⟩
       case measure=>simp [intOf]<;>omega
      ·have hq44:q=4:=by omega
       subst hq44
       go_wp2
       go_roundw
       case rel=>exact⟨c+1,by omega,by go_num,hr,hw,hgr⟩
       case measure=>simp [intOf]<;>omega
  ·go_wp2
   go_end0
   exact⟨rfl,jx hr (by omega),hgr⟩
def rcF(T back:Nat->UInt8)(kv:Value)(j:Nat):Value:=if j<256 then U8 (T j)else if j<512 then U8 (back (j - 256))else kv
def j0j(T:Nat->UInt8):Array Value:=((List.range 513).map (rcF T (fun _=>0) (.slice none 0 0))).toArray
theorem j1y(T:Nat->UInt8):Tryz.prog.built 165 [(0,.agg (kO 256 T))]=some (j0j T):=by kernel_rfl
theorem j0k(w:World)(T:Nat->UInt8)(t:TypeId):(w.alloc (.cells (j0j T) t)).rowIs w.heap.size t 513 (rcF T (fun _=>0) (.slice none 0 0)):=
 ⟨_,iN,by simp [j0j],fun i hi=>by simp [j0j,hi]⟩
def UM:Nat->Nat->UInt8
 |0=>fun _=>0
 |n+1=>fun j=>if j=(JP n).toNat then ofI n else UM n j
def j62(j:Nat):UInt8:=UM 256 j
def XV(key:Nat->UInt8):List (List UInt8):=(List.range 11).map fun i=>jC 16 fun j=>kz JP key (16*i+j)
def RefCipherAt(w:World)(B:Nat)(p:Value)(key:Nat->UInt8):Prop:=
 ∃cb kv,p=.pointer (some ⟨cb,0,none⟩)/\cb<B/\ArrB w cb 0 256 JP/\ArrB w cb 256 256 j62/\w.cell? ⟨cb,512,none⟩=some kv/\LBs w B kv (XV key)
theorem RefCipherAt.below{w w':World}{B:Nat}{p:Value}{key:Nat->UInt8}(h:RefCipherAt w B p key)(hb:Below B w w'):RefCipherAt w' B p key:=by
 obtain⟨cb,kv,hp,h1,h2,h3,h4,h5⟩:=h
 exact⟨cb,kv,hp,h1,h2.of_block (hb.block cb h1),h3.of_block (hb.block cb h1),(hb.cell (p:=⟨cb,512,none⟩) h1).trans h4,h5.below hb⟩
theorem qQ(v:Value)(l:List UInt8)(hl:l.length=16)(w:World)(hv:Bs w w.heap.size v l):
 Calls Tryz.prog 110 #[v] w fun e w'=>∃p,e=.returned p/\RefCipherAt w' w'.heap.size p (gb l)/\Below w.heap.size w w':=by
 obtain⟨A,n,c,rfl⟩:=hv.form
 have Hv:=iH hv;have Hl:=iH hl
 clear hv hl
 go_enter Tryz.func110,Tryz.ntmps110
 go_wp2_with fail
 refine(j15 _).mono ?_
 rintro e w1 ⟨rfl,hb1⟩
 go_wp2_with(with_reducible refine xT rfl 165 #[(0,.tmp 5)] rfl [(0,.agg (kO 256 JP))] ?hl (j0j JP) (j1y _) ?_)
 go_loopw [4] (fun i wr=>∃k:Nat,k<=256/\i=.int .i64 k/\wr.rowIs w1.heap.size 165 513 (rcF JP (UM k) (.slice none 0 0))/\Below w1.heap.size w1 wr) (fun i _=>256 - (intOf i).toNat)
 case atStart=>exact⟨0,by omega,rfl,j0k _ _ _,iA⟩
 case round=>
  obtain⟨k,hk,rfl,hr,hb⟩:=hrel
  by_cases hlt:k<256
  ·have hk1:(k:Int)<256:=by omega
   have hc1:wr.cell? ⟨w1.heap.size,k,none⟩=some (U8 (JP k)):=by
    rw [hr.cell (i:=k) (by omega)]
    unfold rcF
    rw [iT hlt]
   obtain⟨x,hx⟩:∃x,x=JP k:=⟨_,rfl⟩
   rw [<-hx]at hc1
   have Hx:=iH hx;clear hx
   have hx0:=jP x
   have hx1:=jT x
   have hx2:=x.toNat_lt
   have hc2:=hr.cell (i:=256+x.toNat) (by omega)
   have hf2:=hr.frozen (256+x.toNat)
   go_wp2
   refine wp_region_still_tail 12 (by kernel_rfl) (by kernel_rfl) ?_
   simp only [List.take_succ_cons,List.take_zero,List.drop_succ_cons,List.drop_zero]
   repeat(refine wpStill_step (fun K hK=> ?_);go_simp;(try go_bits);refine hK _ ?_;clear hK K)
   refine wpStill_nil ?_
   go_wp2
   have e8:Value.int .u8 (k:Int)=U8 (ofI k):=by show Value.int .u8 _=Value.int .u8 (bv (ofI k));rw [yV (by omega) (by omega)]
   go_roundw
   case rel=>
    refine⟨k+1,by omega,by go_num,((hr.set (256+x.toNat) _).congr fun j hj=> ?_).drew,(hb.setCell (by simp) _).drew⟩
    rw [e8]
    unfold rcF
    by_cases h1:j<256
    ·rw [iF (by omega),iT h1,iT h1]
    ·rw [iF h1,iF h1]
     by_cases h2:j<512
     ·rw [iT h2,iT h2]
      show _=U8 (if j - 256=(JP k).toNat then ofI k else UM k (j - 256))
      rw [<-Hx.out]
      by_cases h3:j=256+x.toNat
      ·rw [iT h3,iT (by omega)]
      ·rw [iF h3,iF (by omega)]
     ·rw [iF h2,iF h2,iF (by omega)]
   case measure=>simp [intOf]<;>omega
  ·have hk256:k=256:=by omega
   have HK:=iH hk256
   have hT:ArrB wr w1.heap.size 0 256 JP:=fun j hj=>by
    rw [Nat.zero_add,hr.cell (i:=j) (by omega)]
    unfold rcF
    rw [iT hj]
   have hlt2:=hr.lt
   have Hr:=iH hr;have Hb:=iH hb;have HT:=iH hT
   have hd:decide ((k:Int)<256)=false:=by simp;omega
   clear hr hb hT hk256
   have HV:=iH ((Hv.out.below (hb1.trans (Hb.out.mono hb1.size))).mono (Nat.le_trans hb1.size Hb.out.size))
   go_wp2_with fail
   refine(QJ w1.heap.size JP (.slice A n c) l Hl.out wr HT.out hlt2 HV.out).mono ?_
   rintro e w3 ⟨v3,rfl,hv3,hb3⟩
   have hr3:=zD Hr.out hb3 hlt2
   have hb03:Below w.heap.size w w3:=(hb1.trans (Hb.out.mono hb1.size)).trans (hb3.mono (Nat.le_trans hb1.size Hb.out.size))
   obtain⟨a3,c3,xs3,hve,h31,h32,hE3,hc3⟩:=hv3
   obtain⟨n3,hn3⟩:∃n3,n3=(XV (gb l)).length:=⟨_,rfl⟩
   have hv3:LBsS w3 (New wr w3) (.slice a3 n3 c3) (XV (gb l)):=⟨a3,c3,xs3,by rw [hn3],h31,h32,hE3,hc3⟩
   have hve':v3=.slice a3 n3 c3:=by rw [hve,hn3]<;>rfl
   subst hve'
   have cc:=hr3.cell (i:=512) (by omega)
   have ff:=hr3.frozen 512
   have Hv3:=iH hv3;have Hr3:=iH hr3;have Hb03:=iH hb03;have HN:=iH hn3
   have Hlt:=iH hlt2;have Hlt3:=iH (iZ hlt2 hb3.size)
   have Hle:=iH (Nat.le_trans hb1.size Hb.out.size)
   clear hve hE3 hc3 h31 h32 hv3 hr3 hb03 hb3 hn3 hlt2
   go_wp2
   go_ret
   have hr4:=Hr3.out.set 512 (.slice a3 n3 c3)
   refine⟨_,rfl,⟨w1.heap.size,.slice a3 n3 c3,rfl,by have:=Hlt3.out;simpa using this,?_,?_,?_,?_⟩,Hb03.out.setCell (by have:=hb1.size;exact this) _⟩
   ·intro j hj
    rw [Nat.zero_add,hr4.cell (i:=j) (by omega),iF (by omega)]
    unfold rcF
    rw [iT hj]
   ·intro j hj
    rw [hr4.cell (i:=256+j) (by omega),iF (by omega)]
    unfold rcF
    rw [iF (by omega),iT (by omega),show 256+j - 256=j by omega,HK.out]
    rfl
   ·rw [hr4.cell (i:=512) (by omega),iT rfl]
   ·refine Hv3.out.keep fun b hs hlt=>⟨iO (by have:=hs.1;have:=Hlt.out;simp;omega),by simp;exact hs.2⟩
def rK(key:Nat->UInt8)(i j:Nat):UInt8:=kz JP key (16*i+j)
def j4b(f:Nat->UInt8)(j:Nat):UInt8:=JP (f ((j+4*(j % 4)) % 16)).toNat
def yy(key f:Nat->UInt8):Nat->Nat->UInt8
 |0=>fun j=>f j ^^^ rK key 0 j
 |n+1=>fun j=>(if n+1<10 then JV j6n (j4b (yy key f n)) j else j4b (yy key f n) j) ^^^ rK key (n+1) j
def j3a(key f:Nat->UInt8)(j:Nat):UInt8:=yy key f 10 j
theorem j2b(key:Nat->UInt8)(i:Nat)(h:i<11):gl (XV key) i=jC 16 (rK key i):=by
 unfold gl XV
 rw [List.getD_eq_getElem?_getD,List.getElem?_map,List.getElem?_range h]
 rfl
theorem VO{w:World}{B:Nat}{kv:Value}{key:Nat->UInt8}(h:LBs w B kv (XV key)):∃(kb ko kc:Nat) (ks:Nat->Value),kv=.slice (some ⟨kb,ko,none⟩) 11 kc/\kb<B/\
 ∀i,i<11->w.cell? ⟨kb,ko+i,none⟩=some (ks i)/\Bs w B (ks i) (jC 16 (rK key i)):=by
 obtain⟨a,c,xs,hv,h1,h2,hE,h4⟩:=h
 have hlen:(XV key).length=11:=by simp [XV]
 rw [hlen]at hv h4
 obtain⟨kb,ko,rfl,hlt,hc⟩:=h4 (by omega)
 refine⟨kb,ko,c,fun i=>xs.getD i (.slice none 0 0),hv,hlt,fun i hi=> ?_⟩
 have hx:xs[i]?=some (xs.getD i (.slice none 0 0)):=by
  have:i<xs.length:=by rw [hE.1,hlen];exact hi
  simp [this]
 refine⟨hc i _ hx,?_⟩
 have:=hE.2 i _ hx
 rwa [j2b key i hi]at this
theorem Jq{g:Nat}{t:TypeId}{f:Nat->UInt8}{v:Value}{k:Nat->UInt8}{w:World}(hg:w.rowIs g t 16 (fun j=>U8 (f j)))(hv:BsS w (·≠g) v (jC 16 k)):
 Calls Tryz.prog 157 #[.pointer (some ⟨g,0,none⟩),v] w fun e w'=>e=.returned (.tuple #[])/\w'.rowIs g t 16 (fun j=>U8 (f j ^^^ k j))/\w.grownBy w' (some g):=
 (j4j g t f v _ (jr _ _) w hg hv).mono fun _ _ ⟨h1,h2,h3⟩=>⟨h1,h2.congr fun j hj=>by rw [kx _ _ _ hj],h3⟩
theorem Kr(w:World):(w.alloc (.cells #[.int .u8 0,.int .u8 0,.int .u8 0,.int .u8 0,.int .u8 0,.int .u8 0,.int .u8 0,.int .u8 0,.int .u8 0,.int .u8 0,.int .u8 0,.int .u8 0,.int .u8 0,.int .u8 0,.int .u8 0,.int .u8 0] 122)).rowIs w.heap.size 122 16 (fun j=>U8 ((fun _=>0) j)):=by
 refine⟨_,iN,rfl,fun i hi=> ?_⟩
 iterate 16 (rcases i with _|i;·rfl)
 omega
theorem Kj(p v:Value)(key:Nat->UInt8)(l:List UInt8)(hl:l.length=16)(w:World)(hp:RefCipherAt w w.heap.size p key)(hv:Bs w w.heap.size v l):
 Calls Tryz.prog 111 #[p,v] w fun e w'=>∃v',e=.returned v'/\BsS w' (New w w') v' (jC 16 (j3a key (gb l)))/\Below w.heap.size w w':=by
 obtain⟨cb,kv,rfl,hcb,hT,hB,hkc,hkv⟩:=hp
 obtain⟨kb,ko,kc,ks,rfl,hkb,hks⟩:=VO hkv
 obtain⟨a,c,hve,hlc,hc,_,hcell⟩:=hv
 obtain⟨b,off,rfl,hb,hx⟩:=hcell (by omega)
 have hX:ArrB w b off 16 (gb l):=by rw [<-hl];exact hx
 rw [hl]at hve hlc
 subst hve
 clear hcell hx hl hB hkv
 have HX:=iH hX;have HT:=iH hT;have HKs:=iH hks;have Hkc:=iH hkc
 clear hX hT hks hkc
 have Hnew:=iH (Kr w)
 go_enter Tryz.func111,Tryz.ntmps111
 go_wp2
 go_loopw [6] (fun i wr=>∃n:Nat,n<=16/\i=.int .i64 n/\wr.rowIs w.heap.size 122 16 (fun j=>U8 (qI n (gb l) (fun _=>0) j))/\Below w.heap.size w wr) (fun i _=>16 - (intOf i).toNat)
 case atStart=>exact⟨0,by omega,rfl,jy Hnew.out _,iA⟩
 case round=>
  obtain⟨n,hn,rfl,hr,hbb⟩:=hrel
  by_cases hlt:n<16
  ·have hc1:=jJ hr hlt
   have hf1:=hr.frozen n
   have hc2:=(HX.out.of_block (hbb.block b hb)).at_ hlt
   have hn16:(n:Int)<16:=by omega
   go_wp2
   go_roundw
   case rel=>exact⟨n+1,by omega,by go_num,jE hr rfl,hbb.setCell (by simp) _⟩
   case measure=>simp [intOf]<;>omega
  ·have hd:decide ((n:Int)<16)=false:=by simp;omega
   have hr0:=jx hr (by omega)
   have hk0:=(hbb.cell (p:=⟨cb,512,none⟩) hcb).trans Hkc.out
   have hk1:=(hbb.cell (p:=⟨kb,ko+0,none⟩) hkb).trans (HKs.out 0 (by omega)).1
   rw [Nat.add_zero]at hk1
   have Hb1:=iH (BsS.keep (S':=(·≠w.heap.size)) (HKs.out 0 (by omega)).2 fun b' hs _=>⟨hbb.block b' hs,Nat.ne_of_lt hs⟩)
   have Hr0:=iH hr0;have Hbb:=iH hbb
   clear hr hr0 hbb
   go_wp2_with fail
   refine(Jq Hr0.out Hb1.out).mono ?_
   rintro e w1 ⟨rfl,hr1,hg1⟩
   have hb1:=Hbb.out.trans (j8 hg1 Hbb.out.size iL)
   clear hk0 hk1 hg1
   go_wp2
   go_loopw [7] (fun i wr=>∃m:Nat,m<=10/\i=.int .i64 (m+1:Nat)/\wr.rowIs w.heap.size 122 16 (fun j=>U8 (yy key (gb l) m j))/\Below w.heap.size w wr) (fun i _=>11 - (intOf i).toNat)
   case atStart=>exact⟨0,by omega,rfl,hr1,hb1⟩
   case round=>
    clear hr1 hb1 Hr0 Hbb Hb1
    obtain⟨m,hm,rfl,hr,hbb⟩:=hrel
    have j0:0<=(m:Int)+1:=by omega
    by_cases hlt:m<10
    ·have hd1:decide ((m:Int)+1<=10)=true:=by simp;omega
     have j1:(m:Int)+1<11:=by omega
     have hct:=HT.out.of_block (hbb.block cb hcb)
     have HT5:=iH hct
     have hk0:=(hbb.cell (p:=⟨cb,512,none⟩) hcb).trans Hkc.out
     have hkn:=(hbb.cell (p:=⟨kb,ko+(m+1),none⟩) hkb).trans (HKs.out (m+1) (by omega)).1
     have Hk0:=iH hk0;have Hkn:=iH hkn
     have Hr5:=iH hr;have Hbb5:=iH hbb
     clear hct hk0 hkn hr hbb
     obtain⟨wo,rfl⟩:∃wo:World,wo=wr:=⟨_,rfl⟩
     have Hx5:=iH (Kr wo)
     have hlo:=Hbb5.out.size
     have hll:=Hr5.out.lt
     go_wp2
     go_loopw [9] (fun i wi=>∃q:Nat,q<=16/\i=.int .i64 q/\wi.rowIs wo.heap.size 122 16 (fun j=>U8 (qI q (j4b (yy key (gb l) m)) (fun _=>0) j))/\wi.rowIs w.heap.size 122 16 (fun j=>U8 (yy key (gb l) m j))/\Below wo.heap.size wo wi) (fun i _=>16 - (intOf i).toNat)
     case atStart=>exact⟨0,by omega,rfl,jy Hx5.out _,Hr5.out.alloc _,iA⟩
     case round=>
      obtain⟨q,hq,rfl,hxr,hbr,hbo⟩:=hrel
      by_cases hlt2:q<16
      ·have hc1:=jJ hxr hlt2
       have hf1:=hxr.frozen q
       have hc2:=hbr.cell (i:=(q+4*(q % 4)) % 16) (by omega)
       obtain⟨z,hz⟩:∃z,z=yy key (gb l) m ((q+4*(q % 4)) % 16):=⟨_,rfl⟩
       rw [<-hz]at hc2
       have Hz:=iH hz;clear hz
       have z0:=jP z
       have z1:=jT z
       have hc3:=(HT5.out.of_block (hbo.block cb (by omega))).at_ z.toNat_lt
       rw [Nat.zero_add]at hc3
       have i0:0<=((q:Int)+4*((q:Int) % 4)) % 16:=by omega
       have i1:((q:Int)+4*((q:Int) % 4)) % 16<16:=by omega
       have i2:(q:Int)<16:=by omega
       go_wp2
       refine wp_region_still_tail 15 (by kernel_rfl) (by kernel_rfl) ?_
       simp only [List.take_succ_cons,List.take_zero,List.drop_succ_cons,List.drop_zero]
       repeat(refine wpStill_step (fun K hK=> ?_);go_simp;(try go_bits);refine hK _ ?_;clear hK K)
       refine wpStill_nil ?_
       go_wp2
       go_roundw
       case rel=>exact⟨q+1,by omega,by go_num,(jE hxr (by rw [Hz.out]<;>rfl)).drew,(hbr.setOther (by simp;omega) _).drew,(hbo.setCell (by simp) _).drew⟩
       case measure=>simp [intOf]<;>omega
      ·have hdq:decide ((q:Int)<16)=false:=by simp;omega
       have hxa:ArrB wr wo.heap.size 0 16 (j4b (yy key (gb l) m)):=(ArrB.of_row (off:=0) (jx hxr (by omega)) (m:=16) (by omega)).congr fun j _=>by rw [Nat.zero_add]
       have Hxa:=iH hxa;have Hbr:=iH hbr
       have Hbb6:=iH (Hbb5.out.trans (hbo.mono Hbb5.out.size))
       clear hxa hbr hxr hbo
       go_wp2_with(first
        |(with_reducible refine jp rfl 122 (.tmp 8) rfl wo.heap.size 0 16 (j4b (yy key (gb l) m)) rfl _ Hxa.out Tryz.underlying122 rfl rfl ?_)
        |((with_reducible refine kV rfl 122 (.tmp 5) (.tmp 50) rfl w.heap.size 16 (j4b (yy key (gb l) m)) rfl rfl 122 (yy key (gb l) m) Hbr.out rfl ?_)
          intro w7 hr7 hg7
          have hb7:=Hbb6.out.trans (j8 hg7 Hbb6.out.size iL)
          have hk07:=(hb7.cell (p:=⟨cb,512,none⟩) hcb).trans Hkc.out
          have hkn7:=(hb7.cell (p:=⟨kb,ko+(m+1),none⟩) hkb).trans (HKs.out (m+1) (by omega)).1
          have Hk7:=iH (BsS.keep (S':=(·≠w.heap.size)) (HKs.out (m+1) (by omega)).2 fun b' hs _=>⟨hb7.block b' hs,Nat.ne_of_lt hs⟩)
          have Hr7:=iH hr7;have Hb7:=iH hb7
          clear hr7 hg7 hb7))
       ·have h9:m+1<10:=by omega
        have H9:=iH h9;clear h9 hk07 hkn7
        refine(KO _ _ _ j6n _ (by rfl) _ Hr7.out).mono ?_
        rintro e w8 ⟨rfl,hr8,hg8⟩
        have hb8:=Hb7.out.trans (j8 hg8 Hb7.out.size iL)
        have hk08:=(hb8.cell (p:=⟨cb,512,none⟩) hcb).trans Hkc.out
        have hkn8:=(hb8.cell (p:=⟨kb,ko+(m+1),none⟩) hkb).trans (HKs.out (m+1) (by omega)).1
        have Hk8:=iH (BsS.keep (S':=(·≠w.heap.size)) (HKs.out (m+1) (by omega)).2 fun b' hs _=>⟨hb8.block b' hs,Nat.ne_of_lt hs⟩)
        have Hr8:=iH hr8;have Hb8:=iH hb8
        clear hr8 hg8 hb8
        go_wp2_with fail
        refine(Jq Hr8.out Hk8.out).mono ?_
        rintro e w9 ⟨rfl,hr9,hg9⟩
        have hb9:=Hb8.out.trans (j8 hg9 Hb8.out.size iL)
        clear hg9 hk08 hkn8
        go_wp2
        go_roundw
        case rel=>
         refine⟨m+1,by omega,by go_num,hr9.congr fun j _=> ?_,hb9⟩
         show _=U8 ((if m+1<10 then _ else _) ^^^ _)
         rw [iT H9.out]
        case measure=>simp [intOf]<;>omega
       ·have h9:¬m+1<10:=by omega
        have H9:=iH h9;clear h9
        refine(Jq Hr7.out Hk7.out).mono ?_
        rintro e w9 ⟨rfl,hr9,hg9⟩
        have hb9:=Hb7.out.trans (j8 hg9 Hb7.out.size iL)
        clear hg9 hk07 hkn7
        go_wp2
        go_roundw
        case rel=>
         refine⟨m+1,by omega,by go_num,hr9.congr fun j _=> ?_,hb9⟩
         show _=U8 ((if m+1<10 then _ else _) ^^^ _)
         rw [iF H9.out]
        case measure=>simp [intOf]<;>omega
    ·have hm10:m=10:=by omega
     have hd1:decide ((m:Int)+1<=10)=false:=by simp;omega
     have hsrc:SrcAt wr (some ⟨w.heap.size,0,none⟩) 16 ((jC 16 (j3a key (gb l))).map U8):=by
      have:=(BsS.of_row (S:=fun _=>True) hr (by omega) trivial).src.2
      rw [hm10]at this
      exact this
     have Hsrc:=iH hsrc;have Hbb:=iH hbb
     have h0:wr.ownsRow wr.heap.size 5 1 (.slice none 0 0) 0 []:=World.ownsRow_nil _ _ _ _
     clear hsrc hbb hr hm10
     go_wp2_with(at_builtin;(with_reducible refine jn _ rfl (.const (.slice none 0 0)) (.tmp 63) 22 rfl wr.heap.size 5 (.int .u8 0) 1 Tryz.underlying22 kC rfl (by omega) (.slice none 0 0) 0 [] rfl h0 (some ⟨w.heap.size,0,none⟩) 16 16 ((jC 16 (j3a key (gb l))).map U8) rfl Hsrc.out (by omega) iL ?_);intro v9 w9 hown9 hg9 _ _)
     have hb9:=jj h0 hg9 iL iL
     go_ret
     exact⟨v9,rfl,(BsS.of_own hown9 (by rw [jr];omega)).keep fun b' hs _=>⟨rfl,Nat.le_trans Hbb.out.size hs.1,hs.2⟩,Hbb.out.trans (hb9.mono Hbb.out.size)⟩
def j4d:List UInt8:=[99,124,119,123,242,107,111,197,48,1,103,43,254,215,171,118,202,130,201,125,250,89,71,240,173,212,162,175,156,164,114,192,183,253,147,38,54,63,247,204,52,165,229,241,113,216,49,21,4,199,35,195,24,150,5,154,7,18,128,226,235,39,178,117,9,131,44,26,27,110,90,160,82,59,214,179,41,227,47,132,83,209,0,237,32,252,177,91,106,203,190,57,74,76,88,207,208,239,170,251,67,77,51,133,69,249,2,127,80,60,159,168,81,163,64,143,146,157,56,245,188,182,218,33,16,255,243,210,205,12,19,236,95,151,68,23,196,167,126,61,100,93,25,115,96,129,79,220,34,42,144,136,70,238,184,20,222,94,11,219,224,50,58,10,73,6,36,92,194,211,172,98,145,149,228,121,231,200,55,109,141,213,78,169,108,86,244,234,101,122,174,8,186,120,37,46,28,166,180,198,232,221,116,31,75,189,139,138,112,62,181,102,72,3,246,14,97,53,87,185,134,193,29,158,225,248,152,17,105,217,142,148,155,30,135,233,206,85,40,223,140,161,137,13,191,230,66,104,65,153,45,15,176,84,187,22]
def SB(x:UInt8):UInt8:=j4d.getD x.toNat 0
def bsF(y:UInt8):UInt8:=UInt8.ofNat (j4d.idxOf y)
theorem Vg(x:UInt8):bsF (SB x)=x:=by
 refine qd (p:=fun x=>bsF (SB x)=x) ?_ x
 decide+kernel
theorem j4k(x:UInt8):SB (bsF x)=x:=by
 refine qd (p:=fun x=>SB (bsF x)=x) ?_ x
 decide+kernel
theorem Vh{x y:UInt8}(h:SB x=SB y):x=y:=by rw [<-Vg x,h,Vg]
def j74:Nat->UInt8->UInt8->Bool
 |0,_,_=>true
 |n+1,x,y=>(sbx y==SB x)&&j74 n (x ^^^ dbl x) (j2c y 246)
theorem j21(m:Nat):∀(n k:Nat),j74 n (JM k) (j37 k)=true->m<n->sbx (j37 (k+m))=SB (JM (k+m)):=by
 induction m with
 |zero=>
  intro n k h hn
  obtain⟨q,rfl⟩:∃q,n=q+1:=⟨n - 1,by omega⟩
  unfold j74 at h
  simp only [Bool.and_eq_true,beq_iff_eq]at h
  exact h.1
 |succ m ih=>
  intro n k h hn
  obtain⟨q,rfl⟩:∃q,n=q+1:=⟨n - 1,by omega⟩
  unfold j74 at h
  simp only [Bool.and_eq_true,beq_iff_eq]at h
  have:=ih q (k+1) h.2 (by omega)
  rwa [show k+1+m=k+(m+1)by omega]at this
theorem JN(n:Nat)(hn:n<255):sbx (j37 n)=SB (JM n):=by
 have:=j21 n 255 0 (by decide+kernel) hn
 rwa [Nat.zero_add]at this
def yw:Nat->UInt8->List UInt8
 |0,_=>[]
 |n+1,x=>x :: yw n (x ^^^ dbl x)
theorem ZS(n:Nat):∀(k:Nat) (b:UInt8),b∈yw n (JM k)->∃m,m<n/\JM (k+m)=b:=by
 induction n with
 |zero=>intro k b h;simp [yw]at h
 |succ n ih=>
  intro k b h
  rw [yw,List.mem_cons]at h
  rcases h with h|h
  ·exact⟨0,by omega,h.symm⟩
  ·obtain⟨m,hm,e⟩:=ih (k+1) b h
   exact⟨m+1,by omega,by rw [<-e];congr 1;omega⟩
theorem xK(b:UInt8)(hb:b≠0):∃m,m<255/\JM m=b:=by
 have h:b∈yw 255 (JM 0):=by
  revert hb
  refine qd (p:=fun b=>b≠0->b∈yw 255 (JM 0)) ?_ b
  decide+kernel
 obtain⟨m,hm,e⟩:=ZS 255 0 b h
 exact⟨m,hm,by rwa [Nat.zero_add]at e⟩
theorem j3m(n:Nat)(hn:n<=255)(b:UInt8):(∃m,m<n/\JM m=b)->j5r n b.toNat=SB b:=by
 induction n with
 |zero=>rintro⟨m,h,_⟩;omega
 |succ n ih=>
  rintro⟨m,hm,e⟩
  show j1q (j5r n) (JM n) (j37 n) b.toNat=_
  unfold j1q
  have hlt:=b.toNat_lt
  rw [iF (by omega)]
  by_cases h:b.toNat=(JM n).toNat
  ·rw [iT h,JN n (by omega),UInt8.toNat_inj.1 h]
  ·rw [iF h]
   refine ih (by omega) ⟨m,?_,e⟩
   rcases Nat.lt_or_ge m n with h1|h1
   ·exact h1
   ·have:m=n:=by omega
    subst this
    exact absurd (by rw [e]) h
theorem j3l(n:Nat)(hn:n<=255)(b:UInt8):(∃m,m<n/\JM m=b)->j5r n (256+(SB b).toNat)=b:=by
 induction n with
 |zero=>rintro⟨m,h,_⟩;omega
 |succ n ih=>
  rintro⟨m,hm,e⟩
  show j1q (j5r n) (JM n) (j37 n) _=_
  unfold j1q
  rw [JN n (by omega)]
  have hlt:=(JM n).toNat_lt
  by_cases h:SB b=SB (JM n)
  ·rw [iT (by rw [h]),Vh h]
  ·rw [iF (by intro e2;exact h (UInt8.toNat_inj.1 (by omega))),iF (by omega)]
   refine ih (by omega) ⟨m,?_,e⟩
   rcases Nat.lt_or_ge m n with h1|h1
   ·exact h1
   ·have:m=n:=by omega
    subst this
    exact absurd (by rw [e]) h
theorem YV:sbx 0=SB 0:=by decide+kernel
theorem j6j(b:UInt8):fwd b.toNat=SB b:=by
 unfold fwd j5s j1q
 have hlt:=b.toNat_lt
 rw [iF (by omega),YV]
 by_cases h:b=0
 ·subst h;rw [iT rfl]
 ·rw [iF (by intro e;exact h (UInt8.toNat_inj.1 e))]
  exact j3m 255 (by omega) b (xK b h)
theorem j6d(b:UInt8):bck (SB b).toNat=b:=by
 unfold bck j5s j1q
 rw [YV]
 by_cases h:b=0
 ·subst h;rw [iT rfl]
 ·rw [iF (by intro e;exact h (Vh (UInt8.toNat_inj.1 (by omega)))),iF (by simp)]
  exact j3l 255 (by omega) b (xK b h)
def j75:Nat->UInt8->UInt8->Bool
 |0,_,_=>true
 |n+1,x,y=>(aff y==SB x)&&j75 n (tms x 3) (tms y 246)
theorem j22(m:Nat):∀(n k:Nat),j75 n (rP k) (rQ k)=true->m<n->aff (rQ (k+m))=SB (rP (k+m)):=by
 induction m with
 |zero=>
  intro n k h hn
  obtain⟨q,rfl⟩:∃q,n=q+1:=⟨n - 1,by omega⟩
  unfold j75 at h
  simp only [Bool.and_eq_true,beq_iff_eq]at h
  exact h.1
 |succ m ih=>
  intro n k h hn
  obtain⟨q,rfl⟩:∃q,n=q+1:=⟨n - 1,by omega⟩
  unfold j75 at h
  simp only [Bool.and_eq_true,beq_iff_eq]at h
  have:=ih q (k+1) h.2 (by omega)
  rwa [show k+1+m=k+(m+1)by omega]at this
theorem Kk(n:Nat)(hn:n<255):aff (rQ n)=SB (rP n):=by
 have:=j22 n 255 0 (by decide+kernel) hn
 rwa [Nat.zero_add]at this
theorem j1a(a:UInt8):tms a 3=a ^^^ dbl a:=by
 refine qd (p:=fun a=>tms a 3=a ^^^ dbl a) ?_ a
 decide+kernel
theorem j5j(n:Nat):rP n=JM n:=by
 induction n with
 |zero=>rfl
 |succ n ih=>show tms (rP n) 3=JM n ^^^ dbl (JM n);rw [j1a,ih]
theorem j7j(n:Nat)(hn:n<=255)(b:UInt8):(∃m,m<n/\JM m=b)->rT n b.toNat=SB b:=by
 induction n with
 |zero=>rintro⟨m,h,_⟩;omega
 |succ n ih=>
  rintro⟨m,hm,e⟩
  show(if b.toNat=(rP n).toNat then aff (rQ n)else rT n b.toNat)=_
  by_cases h:b.toNat=(rP n).toNat
  ·rw [iT h,Kk n (by omega),UInt8.toNat_inj.1 h]
  ·rw [iF h]
   refine ih (by omega) ⟨m,?_,e⟩
   rcases Nat.lt_or_ge m n with h1|h1
   ·exact h1
   ·have:m=n:=by omega
    subst this
    exact absurd (by rw [j5j,e]) h
theorem j0i(b:UInt8):JP b.toNat=SB b:=by
 unfold JP
 by_cases h:b=0
 ·subst h;rw [iT (by decide)];decide+kernel
 ·rw [iF (by intro e;exact h (UInt8.toNat_inj.1 e))]
  exact j7j 255 (by omega) b (xK b h)
theorem j39(n:Nat)(hn:n<=256)(b:UInt8)(hb:b.toNat<n):UM n (SB b).toNat=b:=by
 induction n with
 |zero=>omega
 |succ n ih=>
  show(if(SB b).toNat=(JP n).toNat then ofI n else UM n (SB b).toNat)=_
  have en:n=(UInt8.ofNat n).toNat:=by simp;omega
  have et:JP n=SB (UInt8.ofNat n):=by rw [<-j0i,<-en]
  rw [et]
  by_cases h:SB b=SB (UInt8.ofNat n)
  ·rw [iT (by rw [h]),Vh h]
   apply xy
   rw [qO]
   unfold bv
   rw [<-en]
   omega
  ·rw [iF (by intro e;exact h (UInt8.toNat_inj.1 e))]
   refine ih (by omega) ?_
   rcases Nat.lt_or_ge b.toNat n with h1|h1
   ·exact h1
   ·exact absurd (by rw [show b=UInt8.ofNat n from UInt8.toNat_inj.1 (by omega)]) h
theorem j5i(b:UInt8):j62 (SB b).toNat=b:=j39 256 (by omega) b b.toNat_lt
theorem Yy(b:UInt8):fwd b.toNat=JP b.toNat:=by rw [j6j,j0i]
theorem j1x(b:UInt8):bck b.toNat=j62 b.toNat:=by
 rw [<-j4k b,j6d,j5i]
def UN(g:Nat->UInt8)(j:Nat):UInt8:=j62 (g ((j+12*(j % 4)) % 16)).toNat
def QG(g:Nat->UInt8)(q j:Nat):UInt8:=if(j+12*(j % 4)) % 16<q then UN g j else 0
theorem KL(g:Nat->UInt8)(q j:Nat)(hq:q<16)(hj:j<16)(v:UInt8)(hv:v=j62 (g q).toNat):
 (if j=(q+4*(q % 4)) % 16 then U8 v else U8 (QG g q j))=U8 (QG g (q+1) j):=by
 unfold QG
 by_cases h:j=(q+4*(q % 4)) % 16
 ·rw [iT h,iT (by omega),hv]
  unfold UN
  rw [show(j+12*(j % 4)) % 16=q by omega]
 ·rw [iF h]
  by_cases h2:(j+12*(j % 4)) % 16<q
  ·rw [iT h2,iT (by omega)]
  ·rw [iF h2,iF (by omega)]
def JO(key:Nat->UInt8)(i:Nat)(s:Nat->UInt8)(j:Nat):UInt8:=if i<10 then JV j6m (fun j=>s j ^^^ rK key i j) j else s j ^^^ rK key i j
def yZ(key f:Nat->UInt8):Nat->Nat->UInt8
 |0=>f
 |n+1=>UN (JO key (10 - n) (yZ key f n))
def j0h(key f:Nat->UInt8)(j:Nat):UInt8:=yZ key f 10 j ^^^ rK key 0 j
theorem Ki(p v:Value)(key:Nat->UInt8)(l:List UInt8)(hl:l.length=16)(w:World)(hp:RefCipherAt w w.heap.size p key)(hv:Bs w w.heap.size v l):
 Calls Tryz.prog 113 #[p,v] w fun e w'=>∃v',e=.returned v'/\BsS w' (New w w') v' (jC 16 (j0h key (gb l)))/\Below w.heap.size w w':=by
 obtain⟨cb,kv,rfl,hcb,hT,hB,hkc,hkv⟩:=hp
 obtain⟨kb,ko,kc,ks,rfl,hkb,hks⟩:=VO hkv
 obtain⟨a,c,hve,hlc,hc,_,hcell⟩:=hv
 obtain⟨b,off,rfl,hb,hx⟩:=hcell (by omega)
 have hX:ArrB w b off 16 (gb l):=by rw [<-hl];exact hx
 rw [hl]at hve hlc
 subst hve
 clear hcell hx hl hT hkv
 have HX:=iH hX;have HT:=iH hB;have HKs:=iH hks;have Hkc:=iH hkc
 clear hX hB hks hkc
 have Hnew:=iH (Kr w)
 go_enter Tryz.func113,Tryz.ntmps113
 go_wp2
 go_loopw [6] (fun i wr=>∃n:Nat,n<=16/\i=.int .i64 n/\wr.rowIs w.heap.size 122 16 (fun j=>U8 (qI n (gb l) (fun _=>0) j))/\Below w.heap.size w wr) (fun i _=>16 - (intOf i).toNat)
 case atStart=>exact⟨0,by omega,rfl,jy Hnew.out _,iA⟩
 case round=>
  obtain⟨n,hn,rfl,hr,hbb⟩:=hrel
  by_cases hlt:n<16
  ·have hc1:=jJ hr hlt
   have hf1:=hr.frozen n
   have hc2:=(HX.out.of_block (hbb.block b hb)).at_ hlt
   have hn16:(n:Int)<16:=by omega
   go_wp2
   go_roundw
   case rel=>exact⟨n+1,by omega,by go_num,jE hr rfl,hbb.setCell (by simp) _⟩
   case measure=>simp [intOf]<;>omega
  ·have hd:decide ((n:Int)<16)=false:=by simp;omega
   have hr0:=jx hr (by omega)
   clear hr
   go_wp2
   go_loopw [7] (fun i wr=>∃m:Nat,m<=10/\i=.int .i64 m/\wr.rowIs w.heap.size 122 16 (fun j=>U8 (yZ key (gb l) (10 - m) j))/\Below w.heap.size w wr) (fun i _=>(intOf i).toNat)
   case atStart=>exact⟨10,by omega,rfl,hr0,hbb⟩
   case round=>
    clear hr0 hbb
    obtain⟨m,hm,rfl,hr,hbb⟩:=hrel
    have j0:0<=(m:Int):=by omega
    by_cases hm1:1<=m
    ·have hd1:decide (1<=(m:Int))=true:=by simp;omega
     have j1:(m:Int)<11:=by omega
     obtain⟨d,hdd⟩:∃d,d=10 - m:=⟨_,rfl⟩
     rw [<-hdd]at hr
     have hde:10 - (m - 1)=d+1:=by omega
     have hdm:10 - d=m:=by omega
     have Hde:=iH hde;have Hdm:=iH hdm
     clear hdd hde hdm
     have hk0:=(hbb.cell (p:=⟨cb,512,none⟩) hcb).trans Hkc.out
     have hkn:=(hbb.cell (p:=⟨kb,ko+m,none⟩) hkb).trans (HKs.out m (by omega)).1
     have Hk7:=iH (BsS.keep (S':=(·≠w.heap.size)) (HKs.out m (by omega)).2 fun b' hs _=>⟨hbb.block b' hs,Nat.ne_of_lt hs⟩)
     have Hr7:=iH hr;have Hb7:=iH hbb
     clear hr hbb
     go_wp2_with fail
     refine(Jq Hr7.out Hk7.out).mono ?_
     rintro e w9 ⟨rfl,hr9,hg9⟩
     have hb9:=Hb7.out.trans (j8 hg9 Hb7.out.size iL)
     clear hg9 hk0 hkn
     by_cases h10:m<10
     ·have hd2:decide ((m:Int)<10)=true:=by simp;omega
      go_wp2_with fail
      refine(KO _ _ _ j6m _ (by rfl) _ hr9).mono ?_
      rintro e w8 ⟨rfl,hr8,hg8⟩
      have hb8:=hb9.trans (j8 hg8 hb9.size iL)
      have hg:w8.rowIs w.heap.size 122 16 (fun j=>U8 (JO key m (yZ key (gb l) d) j)):=hr8.congr fun j _=>by
       unfold JO;rw [iT h10]
      clear hr9 hg8 hb9 hr8
      obtain⟨G,hG⟩:∃G,G=JO key m (yZ key (gb l) d):=⟨_,rfl⟩
      rw [<-hG]at hg
      have HG:=iH hG;have Hr5:=iH hg;have Hbb5:=iH hb8
      have HT5:=iH (HT.out.of_block (hb8.block cb hcb))
      have Hx5:=iH (Kr w8)
      have hlo:=hb8.size
      have hll:=hg.lt
      clear hG hg hb8
      go_wp2
      go_loopw [9] (fun i wi=>∃q:Nat,q<=16/\i=.int .i64 q/\wi.rowIs w8.heap.size 122 16 (fun j=>U8 (QG G q j))/\wi.rowIs w.heap.size 122 16 (fun j=>U8 (G j))/\Below w8.heap.size w8 wi) (fun i _=>16 - (intOf i).toNat)
      case atStart=>exact⟨0,by omega,rfl,Hx5.out.congr fun j _=>by unfold QG;rw [iF (by omega)],Hr5.out.alloc _,iA⟩
      case round=>
       obtain⟨q,hq,rfl,hxr,hbr,hbo⟩:=hrel
       by_cases hlt2:q<16
       ·have hc1:=hxr.cell (i:=(q+4*(q % 4)) % 16) (by omega)
        have hf1:=hxr.frozen ((q+4*(q % 4)) % 16)
        have hc2:=hbr.cell (i:=q) hlt2
        obtain⟨z,hz⟩:∃z,z=G q:=⟨_,rfl⟩
        rw [<-hz]at hc2
        have Hz:=iH hz;clear hz
        have z0:=jP z
        have z1:=jT z
        have hc3:=(HT5.out.of_block (hbo.block cb (by omega))).at_ z.toNat_lt
        have i0:0<=((q:Int)+4*((q:Int) % 4)) % 16:=by omega
        have i1:((q:Int)+4*((q:Int) % 4)) % 16<16:=by omega
        have i2:(q:Int)<16:=by omega
        go_wp2
        refine wp_region_still_tail 15 (by kernel_rfl) (by kernel_rfl) ?_
        simp only [List.take_succ_cons,List.take_zero,List.drop_succ_cons,List.drop_zero]
        repeat(refine wpStill_step (fun K hK=> ?_);go_simp;(try go_bits);refine hK _ ?_;clear hK K)
        refine wpStill_nil ?_
        go_wp2
        go_roundw
        case rel=>exact⟨q+1,by omega,by go_num,((hxr.set _ _).congr fun j hj=>KL G q j hlt2 hj _ (by rw [Hz.out])).drew,(hbr.setOther (by simp;omega) _).drew,(hbo.setCell (by simp) _).drew⟩
        case measure=>simp [intOf]<;>omega
       ·have hdq:decide ((q:Int)<16)=false:=by simp;omega
        have hxa:ArrB wr w8.heap.size 0 16 (UN G):=(ArrB.of_row (off:=0) (hxr.congr (g:=fun j=>U8 (UN G j)) fun j hj=>by unfold QG;rw [iT (by omega)]) (m:=16) (by omega)).congr fun j _=>by rw [Nat.zero_add]
        have Hxa:=iH hxa;have Hbr:=iH hbr
        have Hbb6:=iH (Hbb5.out.trans (hbo.mono Hbb5.out.size))
        clear hxa hbr hxr hbo
        go_wp2_with(first
         |(with_reducible refine jp rfl 122 (.tmp 8) rfl w8.heap.size 0 16 (UN G) rfl _ Hxa.out Tryz.underlying122 rfl rfl ?_)
         |((with_reducible refine kV rfl 122 (.tmp 5) (.tmp 55) rfl w.heap.size 16 (UN G) rfl rfl 122 G Hbr.out rfl ?_)
           intro w7 hr7 hg7
           have Hb7:=iH (Hbb6.out.trans (j8 hg7 Hbb6.out.size iL))
           have Hr7:=iH hr7
           clear hr7 hg7))
        go_roundw
        case rel=>
         refine⟨m - 1,by omega,by go_num,Hr7.out.congr fun j _=> ?_,Hb7.out⟩
         rw [Hde.out]
         show _=U8 (UN (JO key (10 - d) (yZ key (gb l) d)) j)
         rw [Hdm.out,HG.out]
        case measure=>simp [intOf]<;>omega
     ·have hd2:decide ((m:Int)<10)=false:=by simp;omega
      obtain⟨w8,hw8⟩:∃w8,w8=w9:=⟨_,rfl⟩
      rw [<-hw8]at hr9 hb9 |-
      clear hw8
      have hb8:=hb9
      have hg:w8.rowIs w.heap.size 122 16 (fun j=>U8 (JO key m (yZ key (gb l) d) j)):=hr9.congr fun j _=>by
       unfold JO;rw [iF h10]
      clear hr9 hb9
      obtain⟨G,hG⟩:∃G,G=JO key m (yZ key (gb l) d):=⟨_,rfl⟩
      rw [<-hG]at hg
      have HG:=iH hG;have Hr5:=iH hg;have Hbb5:=iH hb8
      have HT5:=iH (HT.out.of_block (hb8.block cb hcb))
      have Hx5:=iH (Kr w8)
      have hlo:=hb8.size
      have hll:=hg.lt
      clear hG hg hb8
      go_wp2
      go_loopw [9] (fun i wi=>∃q:Nat,q<=16/\i=.int .i64 q/\wi.rowIs w8.heap.size 122 16 (fun j=>U8 (QG G q j))/\wi.rowIs w.heap.size 122 16 (fun j=>U8 (G j))/\Below w8.heap.size w8 wi) (fun i _=>16 - (intOf i).toNat)
      case atStart=>exact⟨0,by omega,rfl,Hx5.out.congr fun j _=>by unfold QG;rw [iF (by omega)],Hr5.out.alloc _,iA⟩
      case round=>
       obtain⟨q,hq,rfl,hxr,hbr,hbo⟩:=hrel
       by_cases hlt2:q<16
       ·have hc1:=hxr.cell (i:=(q+4*(q % 4)) % 16) (by omega)
        have hf1:=hxr.frozen ((q+4*(q % 4)) % 16)
        have hc2:=hbr.cell (i:=q) hlt2
        obtain⟨z,hz⟩:∃z,z=G q:=⟨_,rfl⟩
        rw [<-hz]at hc2
        have Hz:=iH hz;clear hz
        have z0:=jP z
        have z1:=jT z
        have hc3:=(HT5.out.of_block (hbo.block cb (by omega))).at_ z.toNat_lt
        have i0:0<=((q:Int)+4*((q:Int) % 4)) % 16:=by omega
        have i1:((q:Int)+4*((q:Int) % 4)) % 16<16:=by omega
        have i2:(q:Int)<16:=by omega
        go_wp2
        refine wp_region_still_tail 15 (by kernel_rfl) (by kernel_rfl) ?_
        simp only [List.take_succ_cons,List.take_zero,List.drop_succ_cons,List.drop_zero]
        repeat(refine wpStill_step (fun K hK=> ?_);go_simp;(try go_bits);refine hK _ ?_;clear hK K)
        refine wpStill_nil ?_
        go_wp2
        go_roundw
        case rel=>exact⟨q+1,by omega,by go_num,((hxr.set _ _).congr fun j hj=>KL G q j hlt2 hj _ (by rw [Hz.out])).drew,(hbr.setOther (by simp;omega) _).drew,(hbo.setCell (by simp) _).drew⟩
        case measure=>simp [intOf]<;>omega
       ·have hdq:decide ((q:Int)<16)=false:=by simp;omega
        have hxa:ArrB wr w8.heap.size 0 16 (UN G):=(ArrB.of_row (off:=0) (hxr.congr (g:=fun j=>U8 (UN G j)) fun j hj=>by unfold QG;rw [iT (by omega)]) (m:=16) (by omega)).congr fun j _=>by rw [Nat.zero_add]
        have Hxa:=iH hxa;have Hbr:=iH hbr
        have Hbb6:=iH (Hbb5.out.trans (hbo.mono Hbb5.out.size))
        clear hxa hbr hxr hbo
        go_wp2_with(first
         |(with_reducible refine jp rfl 122 (.tmp 8) rfl w8.heap.size 0 16 (UN G) rfl _ Hxa.out Tryz.underlying122 rfl rfl ?_)
         |((with_reducible refine kV rfl 122 (.tmp 5) (.tmp 55) rfl w.heap.size 16 (UN G) rfl rfl 122 G Hbr.out rfl ?_)
           intro w7 hr7 hg7
           have Hb7:=iH (Hbb6.out.trans (j8 hg7 Hbb6.out.size iL))
           have Hr7:=iH hr7
           clear hr7 hg7))
        go_roundw
        case rel=>
         refine⟨m - 1,by omega,by go_num,Hr7.out.congr fun j _=> ?_,Hb7.out⟩
         rw [Hde.out]
         show _=U8 (UN (JO key (10 - d) (yZ key (gb l) d)) j)
         rw [Hdm.out,HG.out]
        case measure=>simp [intOf]<;>omega
    ·have hm0:m=0:=by omega
     have hd1:decide (1<=(m:Int))=false:=by simp;omega
     have hk0:=(hbb.cell (p:=⟨cb,512,none⟩) hcb).trans Hkc.out
     have hk1:=(hbb.cell (p:=⟨kb,ko+0,none⟩) hkb).trans (HKs.out 0 (by omega)).1
     rw [Nat.add_zero]at hk1
     have Hk7:=iH (BsS.keep (S':=(·≠w.heap.size)) (HKs.out 0 (by omega)).2 fun b' hs _=>⟨hbb.block b' hs,Nat.ne_of_lt hs⟩)
     rw [hm0]at hr
     have Hr7:=iH hr;have Hb7:=iH hbb
     clear hr hbb hm0
     go_wp2_with fail
     refine(Jq Hr7.out Hk7.out).mono ?_
     rintro e w9 ⟨rfl,hr9,hg9⟩
     have hb9:=Hb7.out.trans (j8 hg9 Hb7.out.size iL)
     have Hsrc:=iH (show SrcAt w9 (some ⟨w.heap.size,0,none⟩) 16 ((jC 16 (j0h key (gb l))).map U8) from(BsS.of_row (S:=fun _=>True) hr9 (by omega) trivial).src.2)
     have Hbb:=iH hb9
     have h0:w9.ownsRow w9.heap.size 5 1 (.slice none 0 0) 0 []:=World.ownsRow_nil _ _ _ _
     clear hg9 hk0 hk1 hr9 hb9
     go_wp2_with(at_builtin;(with_reducible refine jn _ rfl (.const (.slice none 0 0)) (.tmp 63) 22 rfl w9.heap.size 5 (.int .u8 0) 1 Tryz.underlying22 kC rfl (by omega) (.slice none 0 0) 0 [] rfl h0 (some ⟨w.heap.size,0,none⟩) 16 16 ((jC 16 (j0h key (gb l))).map U8) rfl Hsrc.out (by omega) iL ?_);intro v9 w5 hown9 hg9 _ _)
     have hb9:=jj h0 hg9 iL iL
     go_ret
     exact⟨v9,rfl,(BsS.of_own hown9 (by rw [jr];omega)).keep fun b' hs _=>⟨rfl,Nat.le_trans Hbb.out.size hs.1,hs.2⟩,Hbb.out.trans (hb9.mono Hbb.out.size)⟩
section
variable{T T':Nat->UInt8}(hT:∀x:UInt8,T x.toNat=T' x.toNat)
include T T' hT
theorem VP(old:Nat->UInt8)(c:UInt8):kw0 T old c=kw0 T' old c:=by
 funext r
 unfold kw0
 rw [hT,hT,hT,hT]
theorem VQ(old:Nat->UInt8)(c:UInt8)(n:Nat):kwF T old c n=kwF T' old c n:=by
 induction n with
 |zero=>exact VP hT old c
 |succ n ih=>unfold kwF;rw [ih]
theorem Uw(key:Nat->UInt8)(i:Nat):qF T key i=qF T' key i:=by
 induction i with
 |zero=>rfl
 |succ i ih=>
  show JH T (qF T key i) (kQ i)=JH T' (qF T' key i) (kQ i)
  rw [ih]
  funext k
  unfold JH
  rw [VQ hT]
end
theorem Qr(key:Nat->UInt8)(i j:Nat)(hj:j<16):qF fwd key i j=rK key i j:=by
 unfold rK kz
 rw [show(16*i+j) / 16=i by omega,show(16*i+j) % 16=j by omega,Uw Yy]
theorem j4a(b:UInt8):(b &&& 1==1)=(bv b % 2==1):=by
 refine qd (p:=fun b=>(b &&& 1==1)=(bv b % 2==1)) ?_ b
 decide+kernel
theorem j19(n:Nat)(a out:UInt8):Ve n a 0 out=out:=by
 induction n generalizing a with
 |zero=>rfl
 |succ n ih=>rw [K8 _ _ _ _ (by decide)];exact ih _
theorem Uu(n:Nat):∀(a b out:UInt8),bv b<2 ^ n->yW n a b out=Ve n a (bv b) out:=by
 induction n with
 |zero=>intro a b out h;rfl
 |succ n ih=>
  intro a b out h
  by_cases hb:(b != 0)=true
  ·have hd:bv (b / 2)=bv b / 2:=by
    have:=Yr b 2 (by omega) (by omega)
    rw [j30]at this
    exact this.symm
   have h2:=j0y b n h
   by_cases h1:(b &&& 1==1)=true
   ·rw [XB _ _ _ _ hb h1,U0 _ _ _ _ (by rw [<-j4a];exact h1),ih _ _ _ h2,hd]
   ·have h1:(b &&& 1==1)=false:=by simpa using h1
    rw [KC _ _ _ _ hb h1,K8 _ _ _ _ (by rw [<-j4a];exact h1),ih _ _ _ h2,hd]
  ·have hb:(b != 0)=false:=by simpa using hb
   have e:b=0:=by simpa using hb
   rw [XA _ _ _ _ hb,e]
   exact(j19 _ _ _).symm
theorem j2d(a b:UInt8):j2c a b=tms a b:=Uu 8 a b 0 (jT b)
theorem UB(row f:Nat->UInt8)(i n:Nat):j2r row f i n=yz row f (i / 4) (i % 4) n:=by
 induction n with
 |zero=>rfl
 |succ n ih=>rw [XJ,za,ih,j2d,Nat.mul_comm]
section
variable(row:Nat->UInt8){f g:Nat->UInt8}(h:∀j,j<16->f j=g j)
include row f g h
theorem ZX(c r n:Nat)(hc:c<4)(hn:n<=4):yz row f c r n=yz row g c r n:=by
 induction n with
 |zero=>rfl
 |succ n ih=>rw [za,za,ih (by omega),h _ (by omega)]
theorem j49(i:Nat)(hi:i<16):j2q row f i=JV row g i:=by
 unfold j2q JV
 rw [UB,ZX row h _ _ _ (by omega) iL]
end
section
variable(key f:Nat->UInt8)
include key f
theorem j4v(n:Nat):∀j,j<16->j5z key f n j=yy key f n j:=by
 induction n with
 |zero=>intro j hj;show f j ^^^ _=f j ^^^ _;rw [Qr key 0 j hj]
 |succ n ih=>
  have hs:∀j,j<16->Zq 1 (fun j=>fwd (j5z key f n j).toNat) j=j4b (yy key f n) j:=fun j hj=>by
   unfold Zq j4b
   dsimp only
   rw [show 4*((j / 4+1*(j % 4)) % 4)+j % 4=(j+4*(j % 4)) % 16 by omega,ih _ (by omega),Yy]
  intro j hj
  show(if n+1<10 then _ else _) ^^^ _=(if n+1<10 then _ else _) ^^^ _
  rw [Qr key (n+1) j hj]
  by_cases h:n+1<10
  ·rw [iT h,iT h,j49 j6n hs j hj]
  ·rw [iF h,iF h,hs j hj]
theorem j4u:jC 16 (j77 key f)=jC 16 (j3a key f):=zu fun j hj=>j4v key f 10 j hj
theorem j4r(n:Nat):∀j,j<16->j5y key f n j=yZ key f n j:=by
 induction n with
 |zero=>intro j _;rfl
 |succ n ih=>
  have hk:∀j,j<16->j5y key f n j ^^^ qF fwd key (10 - n) j=yZ key f n j ^^^ rK key (10 - n) j:=fun j hj=>by rw [ih j hj,Qr key _ j hj]
  intro j hj
  show bck (Zq 3 _ j).toNat=j62 (JO key (10 - n) (yZ key f n) ((j+12*(j % 4)) % 16)).toNat
  rw [<-j1x]
  congr 2
  unfold Zq JO
  rw [show 4*((j / 4+3*(j % 4)) % 4)+j % 4=(j+12*(j % 4)) % 16 by omega]
  by_cases h:10 - n<10
  ·rw [iT h,iT h,j49 j6m hk _ (by omega)]
  ·rw [iF h,iF h]
   exact hk _ (by omega)
theorem j4q:jC 16 (j76 key f)=jC 16 (j0h key f):=zu fun j hj=>by
 unfold j76 j0h
 rw [j4r key f 10 j hj,Qr key 0 j hj]
end
end Go.Proofs.YtalmmiojbmpmiaaGreatDoor
