/- slices.Grow of nil, slices.Concat of slices of bytes -/
import Derived.Test.YtalmmiojbmpmiaaGreatDoorPs
import Derived.Test.YtalmmiojbmpmiaaGreatDoorPu
set_option linter.all false
set_option maxRecDepth 100000
set_option maxHeartbeats 2000000
namespace Go.Proofs.YtalmmiojbmpmiaaGreatDoor
open Go.RowKit Go.Deep
theorem Xb{ops:Array Oper}{rest:List Oper}{op:Oper}{a:Act}{w:World}{Q:Exit->Act->World->Prop}(hgd:op.guard=none)(s x:Operand)(ho:op.op=.call {callee:=.builtin .append,args:=#[s,x],argTypes:=#[22,3]})(base:Nat)(v:Value)(l:List UInt8)(hs:a.eval s=v)(hown:OwnB w base v l)(k:Nat)(hk:0<k)(hx:a.eval x=.int .i64 k)(hl:l.length+k<=140737488355328)(hbase:base<=w.heap.size)(h:∀v' w',OwnB w' base v' (l++List.replicate k 0)->Below base w w'->wpList Tryz.prog ops Q rest (a.put op.dst v') w'):wpList Tryz.prog ops Q (op :: rest) a w:=by
 obtain⟨v',w',hr,ho',hg⟩:=xp (P:=Tryz.prog) w base 22 3 op.type 5 (.int .u8 0) 1 .i64 .i64 Tryz.underlying22 Tryz.underlying3 kC rfl rfl (by omega) v l.length (l.map U8) hown k hk (by omega) hbase
 refine wpList_plain hgd fun K hK=> ?_
 unfold Oper.wp execOp
 simp only [ho,resolve,invoke,builtin,Sem.run_bind,Sem.run_pure,Result.andThen_ok,List.map_toArray,List.map_cons,List.map_nil,hs,hx,hr]
 refine hK _ _ (h v' w' ?_ (jj hown hg iL hbase))
 show w'.ownsRow base 5 1 v' (l++List.replicate k 0).length ((l++List.replicate k 0).map U8)
 rw [List.length_append,List.length_replicate,List.map_append,List.map_replicate]
 exact ho'
theorem OwnB.none_of{w:World}{base n c:Nat}{A:Option Addr}{l:List UInt8}(h:OwnB w base (.slice A n c) l)(h0:0<l.length):OwnB w base (.slice A 0 c) []:=by
 rcases h.2 with ⟨_,h1⟩|⟨g,cap,cur,hv,hb,hh,_,hm,hs,_⟩
 ·omega
 ·obtain⟨rfl,_,rfl⟩:=Value.slice.inj hv
  exact⟨rfl,.inr ⟨g,c,cur,rfl,hb,hh,Nat.zero_le _,hm,hs,by simp⟩⟩
theorem j2g(n:Nat)(hn:n<=140737488355328)(w:World):Calls Tryz.prog 121 #[.slice none 0 0,.int .i64 n] w fun e w'=>∃v',e=.returned v'/\OwnB w' w.heap.size v' []/\Below w.heap.size w w':=by
 have hn2:(n:Int)<=140737488355328:=by omega
 by_cases h0:n=0
 ·subst h0
  go_enter Tryz.func121,Tryz.ntmps121
  go_wp2_with fail
  go_ret
  exact⟨_,rfl,OwnB.nil _ _,Below.refl _ _⟩
 ·have hp:(n:Int)>0:=by omega
  have HN:=iH hn
  have HP:Hid (0<n):=iH (by omega)
  clear h0
  go_enter Tryz.func121,Tryz.ntmps121
  go_wp2_with(at_builtin;(with_reducible refine Xb rfl (.tmp 20) (.tmp 21) rfl w.heap.size (.slice none 0 0) [] rfl (OwnB.nil _ _) n HP.out rfl (by have:=HN.out;simp only [List.length_nil];omega) iL ?_);intro v1 w1 ho hb;obtain⟨A1,c1,e1⟩:=ho.form;rw [List.nil_append,List.length_replicate]at e1;subst e1;have HO1:=iH (OwnB.none_of ho (by rw [List.nil_append,List.length_replicate];exact HP.out));have HB1:=iH hb;clear ho hb)
  go_ret
  exact⟨_,rfl,HO1.out,HB1.out⟩
def Ju(L:List (Value×List UInt8)):List UInt8:=(L.map (·.2)).flatten
theorem Jv(L:List (Value×List UInt8))(p:Value×List UInt8):Ju (L++ [p])=Ju L++p.2:=by simp [Ju]
theorem Ys(L M:List (Value×List UInt8)):(Ju (L++M)).length=(Ju L).length+(Ju M).length:=by simp [Ju]
theorem Kw(L:List (Value×List UInt8))(g:Nat)(S:Nat->Prop)(w:World)(t:TypeId)(hg:w.heap[g]?=some (.cells (L.map (·.1)).toArray t (0,0)))(hb:∀p∈L,BsS w S p.1 p.2)(hl:(Ju L).length<=140737488355000)(hn:L.length<=1000):
 Calls Tryz.prog 63 #[.slice (some ⟨g,0,none⟩) L.length L.length] w fun e w'=>∃v',e=.returned v'/\OwnB w' w.heap.size v' (Ju L)/\Below w.heap.size w w':=by
 have hgl:=(iG hg)
 have HC:Hid (∀j (h:j<L.length),w.cell? ⟨g,j,none⟩=some L[j].1):=iH (fun j h=>by
  rw [cell_of_row _ _ _ _ _ _ hg]
  simp [h])
 have HB:=iH hb;have HL:=iH hl
 clear hg hb
 go_enter Tryz.func63,Tryz.ntmps63
 go_wp2_with fail
 go_loopg [3,11] L.length (fun m sv iv wr=>∃(D R:List (Value×List UInt8)) (N:Nat),R.length=m/\N=(Ju D).length/\sv=.int .i64 (N:Int)/\iv=.int .i64 D.length/\D.length+R.length=L.length/\Hid (D++R=L)/\w=wr)
 case atStart=>exact⟨[],L,0,rfl,rfl,rfl,rfl,by simp,rfl,rfl⟩
 case round=>
  obtain⟨D,R,N,rfl,hN,rfl,rfl,hj,hab,rfl⟩:=hrel
  cases R with
  |nil=>
   have hD:D=L:=by have:=hab.out;rwa [List.append_nil]at this
   have hN2:N<=140737488355000:=by rw [hN,hD];exact hl
   have hN3:(N:Int)<=140737488355000:=by omega
   have HG:=iH (j2g N (by omega) w)
   simp only [List.length_nil,Nat.add_zero]at hj
   clear hab hN hD hN2
   go_wp2_with(go_at_call 121;refine HG.out.mono ?_;rintro e w1 ⟨v1,rfl,ho,hb1⟩;obtain⟨A1,c1,rfl⟩:∃A c,v1=.slice A 0 c:=ho.form;have HO1:=iH ho;have HB1:=iH hb1;clear ho hb1)
   go_loopg [6,27] L.length (fun m ov iv wr=>∃(D R:List (Value×List UInt8)) (N:Nat) (A c:_),R.length=m/\N=(Ju D).length/\ov=.slice A N c/\iv=.int .i64 D.length/\D.length+R.length=L.length/\Hid (D++R=L)/\Hid (OwnB wr w.heap.size (.slice A N c) (Ju D))/\Below w.heap.size w wr)
   case atStart=>exact⟨[],L,0,A1,c1,rfl,rfl,rfl,rfl,by simp,rfl,HO1,HB1.out⟩
   case round=>
    obtain⟨D,R,N,A2,c2,rfl,hN,rfl,rfl,hj,hab,HO2,hbr⟩:=hrel
    have HBR:=iH hbr
    cases R with
    |nil=>
     have hD:D=L:=by have:=hab.out;rwa [List.append_nil]at this
     simp only [List.length_nil,Nat.add_zero]at hj
     clear hab hN
     go_wp2_with fail
     go_ret
     rw [hD]at HO2
     exact⟨_,rfl,HO2.out,HBR.out⟩
    |cons p R=>
     obtain⟨x,l⟩:=p
     simp only [List.length_cons]at hj
     have hlt:D.length<L.length:=by omega
     have hlt':(D.length:Int)<L.length:=by omega
     have c0:=HC.out D.length hlt
     have en:L[D.length]=(x,l):=by simp [<-hab.out]
     rw [en]at c0
     have hx:=HB.out (x,l) (by rw [<-hab.out];simp)
     obtain⟨ax,cx,hxe,_⟩:=id hx
     dsimp only at hxe
     subst hxe
     have q0:=(hbr.cell (p:=⟨g,D.length,none⟩) hgl).trans c0
     have HX:Hid (BsS wr (fun b=>S b/\b<w.heap.size) (.slice ax l.length cx) l):=iH (BsS.keep hx fun b hs hl=>⟨hbr.block b hl,hs,hl⟩)
     have hlen:(Ju D).length+l.length<=140737488355000:=by
      have h:=HL.out
      rw [<-hab.out,Ys]at h
      have h2:l.length<=(Ju ((.slice ax l.length cx,l) :: R)).length:=by simp [Ju]
      omega
     have HLN:=iH hlen
     have HNN:=iH hN
     have HAB:Hid (D++ [(.slice ax l.length cx,l)]++R=L):=iH (by rw [List.append_assoc];exact hab.out)
     clear en hx c0 hab hbr hN hlen
     go_wp2_with(at_builtin;(with_reducible refine j5 rfl (.tmp 31) (.tmp 32) rfl w.heap.size (.slice A2 N c2) (Ju D) rfl HO2.out ax l.length cx l (fun b=>S b/\b<w.heap.size) rfl HX.out (by have:=HLN.out;omega) HBR.out.size ?_);intro o3 w3 hG;obtain⟨A3,c3,e3⟩:=hG.1.form;rw [List.length_append,<-HNN.out]at e3;subst e3;have HO3:=iH hG.1;have HB3:=iH (HBR.out.trans hG.2.1);clear hG)
     go_roundg R.length
     case measure=>simp
     case rel=>exact⟨D++ [(.slice ax l.length cx,l)],R,N+l.length,A3,c3,rfl,by rw [Jv,List.length_append,HNN.out],rfl,by rw [List.length_append,List.length_singleton];go_num,by rw [List.length_append,List.length_singleton];omega,HAB,iH (by rw [Jv];exact HO3.out),HB3.out⟩
  |cons p R=>
   obtain⟨x,l⟩:=p
   simp only [List.length_cons]at hj
   have hlt:D.length<L.length:=by omega
   have hlt':(D.length:Int)<L.length:=by omega
   have c0:=HC.out D.length hlt
   have en:L[D.length]=(x,l):=by simp [<-hab.out]
   rw [en]at c0
   have hx:=HB.out (x,l) (by rw [<-hab.out];simp)
   obtain⟨ax,cx,hxe,_⟩:=hx
   dsimp only at hxe
   subst hxe
   have hlen:(Ju D).length+l.length<=140737488355000:=by
    have h:=HL.out
    rw [<-hab.out,Ys]at h
    have h2:l.length<=(Ju ((.slice ax l.length cx,l) :: R)).length:=by simp [Ju]
    omega
   have hN2:N+l.length<=140737488355000:=by rw [hN];exact hlen
   have HNN:=iH hN
   have HAB:Hid (D++ [(.slice ax l.length cx,l)]++R=L):=iH (by rw [List.append_assoc];exact hab.out)
   clear en hab hN hlen
   go_wp2_with fail
   go_roundg R.length
   case measure=>simp
   case rel=>exact⟨D++ [(.slice ax l.length cx,l)],R,N+l.length,rfl,by rw [Jv,List.length_append,HNN.out],by go_num,by rw [List.length_append,List.length_singleton];go_num,by rw [List.length_append,List.length_singleton];omega,HAB,rfl⟩
end Go.Proofs.YtalmmiojbmpmiaaGreatDoor
