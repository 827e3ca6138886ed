/- Words for an exchange that a pointer leads to; Layer 21: copies of exchanges; Rows of exchanges: what is stored is read off the goal; the empty row; Layer 21... -/
import Derived.Deep.RegionLawGrows
import Derived.Lib.SlBytesConst
import Derived.Test.YtalmmiojbmpmiaaGreatDoorPBk
import Derived.Test.YtalmmiojbmpmiaaGreatDoorPBn
import Derived.Test.YtalmmiojbmpmiaaGreatDoorPBo
set_option linter.all false
set_option maxRecDepth 100000
set_option maxHeartbeats 8000000
namespace Go.Proofs.YtalmmiojbmpmiaaGreatDoor
open Go.RowKit Go.Deep
def PtW(P:Nat)(w W:World)(row:Array Value):Prop:=W.heap[P]?=some (.cells row 48 (0,0))/\w.grownBy W (some P)/\Below P w W
abbrev j9(P:Nat)(W:World):Nat->Prop:=fun b=>b<W.heap.size/\b≠P
section
variable {P:Nat} {w W W':World} {row:Array Value} {u:Value} {l:List UInt8}
theorem PtW.start(h:w.heap[P]?=some (.cells row 48 (0,0))):PtW P w w row:=⟨h,World.grownBy.refl _ _,Below.refl _ _⟩
theorem PtW.lt(h:PtW P w W row):P<W.heap.size:=lt_of_block h.1
theorem qH{r:Option Nat}(hb:Below W.heap.size W W'):W.grownBy W' r:=⟨hb.os,hb.tape,hb.output,hb.size,fun i hi _=>hb.block i hi⟩
theorem PtW.call(h:PtW P w W row)(hb:Below W.heap.size W W'):PtW P w W' row:=
 ⟨(hb.block P h.lt).trans h.1,ky h.2.1 (qH hb),h.2.2.trans (hb.mono (Nat.le_of_lt h.lt))⟩
theorem PtW.set(h:PtW P w W row)(i:Nat)(v:Value):PtW P w (W.setCell ⟨P,i,none⟩ v) (row.set! i v):=
 ⟨kD (o:=i) h.1,j7 h.2.1 (.inl rfl) _,h.2.2.setCell iL _⟩
theorem PtW.drew(h:PtW P w W row):PtW P w W.drew row:=⟨h.1,⟨h.2.1.os,h.2.1.tape,h.2.1.output,h.2.1.size,h.2.1.block⟩,h.2.2.drew⟩
theorem PtW.trans{row':Array Value}(h:PtW P w W row)(h':PtW P W W' row'):PtW P w W' row':=⟨h'.1,ky h.2.1 h'.2.1,h.2.2.trans h'.2.2⟩
theorem BsS.setP(h:BsS W (j9 P W) u l)(i:Nat)(v:Value):BsS (W.setCell ⟨P,i,none⟩ v) (j9 P (W.setCell ⟨P,i,none⟩ v)) u l:=
 h.keep fun b hs hl=>⟨iO hs.2,by simpa [World.setCell]using hl,hs.2⟩
theorem BsS.grownP(h:BsS W (j9 P W) u l)(hg:W.grownBy W' (some P)):BsS W' (j9 P W') u l:=
 h.keep fun b hs hl=>⟨hg.block b hl (fun e=>by injection e with e;exact hs.2 e),iZ hl hg.size,hs.2⟩
end
def PtO(P:Nat)(w:World)(X:Exg)(W:World):Prop:=
 ∃sA nA aA bA sc nc ac bc,PtW P w W #[.int .i64 X.kd,.slice sA X.sec.length sc,.int .i64 X.pr,.int .i64 X.st,.slice nA X.non.length nc,.int .i64 X.x,.int .i64 X.g,.int .i64 X.own,.int .i64 X.oth,.slice aA X.k1.length ac,.slice bA X.k2.length bc,.int .i64 X.ct]
  /\BsS W (j9 P W) (.slice sA X.sec.length sc) X.sec/\BsS W (j9 P W) (.slice nA X.non.length nc) X.non/\BsS W (j9 P W) (.slice aA X.k1.length ac) X.k1/\BsS W (j9 P W) (.slice bA X.k2.length bc) X.k2
def ym(P:Nat)(w:World)(tag:Int)(X:Exg)(dt nx:List UInt8)(e:Ending)(w':World):Prop:=
 ∃dA dc nA nc,e=.returned (.tuple #[.int .i64 tag,.slice dA dt.length dc,.slice nA nx.length nc,.int .i64 0])/\PtO P w X w'/\BsS w' (j9 P w') (.slice dA dt.length dc) dt/\BsS w' (j9 P w') (.slice nA nx.length nc) nx
def Jp(P:Nat)(w:World)(er:Int)(e:Ending)(w':World):Prop:=
 e=.returned (.tuple #[.int .i64 0,.slice none 0 0,.slice none 0 0,.int .i64 er])/\∃a b c d f g h i j k l m:Value,PtW P w w' #[a,b,c,d,f,g,h,i,j,k,l,m]
def set12(w:World)(P:Nat)(a b c d e f g h i j k l:Value):World:=(((((((((((w.setCell ⟨P,0,none⟩ a).setCell ⟨P,1,none⟩ b).setCell ⟨P,2,none⟩ c).setCell ⟨P,3,none⟩ d).setCell ⟨P,4,none⟩ e).setCell ⟨P,5,none⟩ f).setCell ⟨P,6,none⟩ g).setCell ⟨P,7,none⟩ h).setCell ⟨P,8,none⟩ i).setCell ⟨P,9,none⟩ j).setCell ⟨P,10,none⟩ k).setCell ⟨P,11,none⟩ l
theorem PtW.set12{P:Nat}{w W:World}{a' b' c' d' e' f' g' h' i' j' k' l':Value}(hp:PtW P w W #[a',b',c',d',e',f',g',h',i',j',k',l'])(a b c d e f g h i j k l:Value):PtW P w (set12 W P a b c d e f g h i j k l) #[a,b,c,d,e,f,g,h,i,j,k,l]:=by
 have h0:=(((((((((((hp.set 0 a).set 1 b).set 2 c).set 3 d).set 4 e).set 5 f).set 6 g).set 7 h).set 8 i).set 9 j).set 10 k).set 11 l
 simp only [Array.set!_eq_setIfInBounds,List.setIfInBounds_toArray,List.set_cons_zero,List.set_cons_succ]at h0
 exact h0
theorem BsS.set12{P:Nat}{W:World}{u:Value}{m:List UInt8}(h:BsS W (j9 P W) u m)(a b c d e f g h' i j k l:Value):BsS (set12 W P a b c d e f g h' i j k l) (j9 P (set12 W P a b c d e f g h' i j k l)) u m:=
 (((((((((((h.setP 0 a).setP 1 b).setP 2 c).setP 3 d).setP 4 e).setP 5 f).setP 6 g).setP 7 h').setP 8 i).setP 9 j).setP 10 k).setP 11 l
theorem KV(w:World)(P:Nat)(a b c d e f g h i j k l:Value):(set12 w P a b c d e f g h i j k l).heap.size=w.heap.size:=by simp [Go.Proofs.YtalmmiojbmpmiaaGreatDoor.set12,World.setCell]
theorem K6{w:World}{P q:Nat}(hq:q≠P)(a b c d e f g h i j k l:Value):(set12 w P a b c d e f g h i j k l).heap[q]?=w.heap[q]? :=by
 unfold Go.Proofs.YtalmmiojbmpmiaaGreatDoor.set12
 iterate 12 rw [iO (by exact hq)]
theorem Q4(X:Exg)(sA nA aA bA:Option Addr)(sc nc ac bc:Nat)(w:World)(hs:Bs w w.heap.size (.slice sA X.sec.length sc) X.sec)(hn:Bs w w.heap.size (.slice nA X.non.length nc) X.non)(h1:Bs w w.heap.size (.slice aA X.k1.length ac) X.k1)(h2:Bs w w.heap.size (.slice bA X.k2.length bc) X.k2)(ls:X.sec.length<=140737488351232)(ln:X.non.length<=140737488351232)(l1:X.k1.length<=140737488351232)(l2:X.k2.length<=140737488351232):Calls Tryz.prog 70 #[.agg #[.int .i64 X.kd,.slice sA X.sec.length sc,.int .i64 X.pr,.int .i64 X.st,.slice nA X.non.length nc,.int .i64 X.x,.int .i64 X.g,.int .i64 X.own,.int .i64 X.oth,.slice aA X.k1.length ac,.slice bA X.k2.length bc,.int .i64 X.ct]] w fun e w'=>∃sA nA aA bA sc nc ac bc,e=.returned (.agg #[.int .i64 X.kd,.slice sA X.sec.length sc,.int .i64 X.pr,.int .i64 X.st,.slice nA X.non.length nc,.int .i64 X.x,.int .i64 X.g,.int .i64 X.own,.int .i64 X.oth,.slice aA X.k1.length ac,.slice bA X.k2.length bc,.int .i64 X.ct])/\BsS w' (New w w') (.slice sA X.sec.length sc) X.sec/\BsS w' (New w w') (.slice nA X.non.length nc) X.non/\BsS w' (New w w') (.slice aA X.k1.length ac) X.k1/\BsS w' (New w w') (.slice bA X.k2.length bc) X.k2/\Below w.heap.size w w':=by
 obtain⟨w0,hw0⟩:∃w0,w0=(w.alloc (.cells #[.int .i64 X.kd,.slice sA X.sec.length sc,.int .i64 X.pr,.int .i64 X.st,.slice nA X.non.length nc,.int .i64 X.x,.int .i64 X.g,.int .i64 X.own,.int .i64 X.oth,.slice aA X.k1.length ac,.slice bA X.k2.length bc,.int .i64 X.ct] 48)).alloc (.cells #[.int .i64 0,.slice none 0 0,.int .i64 0,.int .i64 0,.slice none 0 0,.int .i64 0,.int .i64 0,.int .i64 0,.int .i64 0,.slice none 0 0,.slice none 0 0,.int .i64 0] 48):=⟨_,rfl⟩
 have hb0:Below w.heap.size w w0:=by rw [hw0];exact(iA).alloc (by simp) _
 have hz0:w0.heap.size=w.heap.size+2:=by rw [hw0];simp
 have HP0:Hid (PtW w.heap.size w0 w0 #[.int .i64 X.kd,.slice sA X.sec.length sc,.int .i64 X.pr,.int .i64 X.st,.slice nA X.non.length nc,.int .i64 X.x,.int .i64 X.g,.int .i64 X.own,.int .i64 X.oth,.slice aA X.k1.length ac,.slice bA X.k2.length bc,.int .i64 X.ct]):=iH (PtW.start (by rw [hw0];exact(Below.heap_alloc _ _ _ (by simp)).trans (iN)))
 have HZ0:Hid (w0.heap[w.heap.size+1]?=some (.cells #[.int .i64 0,.slice none 0 0,.int .i64 0,.int .i64 0,.slice none 0 0,.int .i64 0,.int .i64 0,.int .i64 0,.int .i64 0,.slice none 0 0,.slice none 0 0,.int .i64 0] 48 (0,0))):=iH (by rw [hw0];exact(show((w.alloc (.cells #[.int .i64 X.kd,.slice sA X.sec.length sc,.int .i64 X.pr,.int .i64 X.st,.slice nA X.non.length nc,.int .i64 X.x,.int .i64 X.g,.int .i64 X.own,.int .i64 X.oth,.slice aA X.k1.length ac,.slice bA X.k2.length bc,.int .i64 X.ct] 48)).alloc (.cells #[.int .i64 0,.slice none 0 0,.int .i64 0,.int .i64 0,.slice none 0 0,.int .i64 0,.int .i64 0,.int .i64 0,.int .i64 0,.slice none 0 0,.slice none 0 0,.int .i64 0] 48)).heap[w.heap.size+1]?=_ from by have:=heap_alloc_new (w.alloc (.cells #[.int .i64 X.kd,.slice sA X.sec.length sc,.int .i64 X.pr,.int .i64 X.st,.slice nA X.non.length nc,.int .i64 X.x,.int .i64 X.g,.int .i64 X.own,.int .i64 X.oth,.slice aA X.k1.length ac,.slice bA X.k2.length bc,.int .i64 X.ct] 48)) (.cells #[.int .i64 0,.slice none 0 0,.int .i64 0,.int .i64 0,.slice none 0 0,.int .i64 0,.int .i64 0,.int .i64 0,.int .i64 0,.slice none 0 0,.slice none 0 0,.int .i64 0] 48);simpa using this))
 have off:∀u m,Bs w w.heap.size u m->BsS w0 (j9 w.heap.size w0) u m:=fun u m h=>h.keep fun b hs hl=>⟨hb0.block b hl,by omega,by omega⟩
 have HS:=iH (off _ _ hs);have HN:=iH (off _ _ hn);have K1:=iH (off _ _ h1);have K2:=iH (off _ _ h2)
 have HLN:=iH (And.intro ls (And.intro ln (And.intro l1 l2)))
 have HW0:=iH hw0;have HB0:=iH hb0;have HSZ:=iH hz0
 have f:=j4 HP0.out.1
 clear hs hn h1 h2 off hw0 hb0 hz0 ls ln l1 l2
 go_enter Tryz.func70,Tryz.ntmps70
 go_upto_region 1 with fail
 rw [<-HW0.out]
 go_upto_region 2 with (go_at_call 67;refine(js _ X.sec w0 HS.out.loB).mono ?_;rintro e w1 ⟨v2,rfl,ho,hb⟩;obtain⟨sB,sd,hv2⟩:=OwnB.form ho;subst hv2;have O1:=iH (OwnB.out ho (by have:=HLN.out;omega) w0 iL);have B1:=iH hb;have hp:=HP0.out.call hb;have HP1:=iH hp;have g:=j4 hp.1;clear hp hb ho f)
 obtain⟨wa,hwa⟩:∃z,z=(w1.setCell ⟨w.heap.size,1,none⟩ (.slice sB X.sec.length sd)):=⟨_,rfl⟩
 rw [<-hwa]
 have hpa:PtW w.heap.size w0 wa #[.int .i64 X.kd,.slice sB X.sec.length sd,.int .i64 X.pr,.int .i64 X.st,.slice nA X.non.length nc,.int .i64 X.x,.int .i64 X.g,.int .i64 X.own,.int .i64 X.oth,.slice aA X.k1.length ac,.slice bA X.k2.length bc,.int .i64 X.ct]:=by rw [hwa];exact HP1.out.set 1 _
 have HPa:=iH hpa
 have HNa:Hid (BsS wa (j9 w.heap.size wa) (.slice nA X.non.length nc) X.non):=iH (HN.out.grownP hpa.2.1)
 have HSa:Hid (BsS wa (j9 w.heap.size wa) (.slice sB X.sec.length sd) X.sec):=iH (by rw [hwa];exact BsS.setP (O1.out.madeB HP0.out.lt) 1 _)
 have NSa:Hid (BsS wa (New w0 wa) (.slice sB X.sec.length sd) X.sec):=iH (by rw [hwa];exact O1.out.keep fun g hg hl=>⟨iO (by show g≠w.heap.size;have:=hg.1;have:=HSZ.out;omega),hg.1,by simpa [World.setCell]using hg.2⟩)
 have f:=j4 hpa.1
 clear hwa hpa g
 go_upto_region 3 with (go_at_call 67;refine(js _ X.non wa HNa.out.loB).mono ?_;rintro e w2 ⟨v2,rfl,ho,hb⟩;obtain⟨nB,nd,hv2⟩:=OwnB.form ho;subst hv2;have O2:=iH (OwnB.out ho (by have:=HLN.out;omega) wa iL);have B2:=iH hb;have hp:=HPa.out.call hb;have HP2:=iH hp;have g:=j4 hp.1;clear hp hb ho f)
 obtain⟨w3,hw3⟩:∃z,z=(w2.setCell ⟨w.heap.size,4,none⟩ (.slice nB X.non.length nd)):=⟨_,rfl⟩
 rw [<-hw3]
 have hp3:PtW w.heap.size w0 w3 #[.int .i64 X.kd,.slice sB X.sec.length sd,.int .i64 X.pr,.int .i64 X.st,.slice nB X.non.length nd,.int .i64 X.x,.int .i64 X.g,.int .i64 X.own,.int .i64 X.oth,.slice aA X.k1.length ac,.slice bA X.k2.length bc,.int .i64 X.ct]:=by rw [hw3];exact HP2.out.set 4 _
 have NS3:Hid (BsS w3 (New w0 w3) (.slice sB X.sec.length sd) X.sec):=iH (NSa.out.keep fun g hg hl=>⟨by rw [hw3,iO (by show g≠w.heap.size;have:=hg.1;have:=HSZ.out;omega)];exact B2.out.block g hl,hg.1,by rw [hw3];simp [World.setCell];exact iZ hl B2.out.size⟩)
 have NN3:Hid (BsS w3 (New w0 w3) (.slice nB X.non.length nd) X.non):=iH (by
  have hz:=HPa.out.2.1.size
  rw [hw3]
  exact O2.out.keep fun g hg hl=>⟨iO (by show g≠w.heap.size;have:=hg.1;have:=HSZ.out;omega),by have:=hg.1;omega,by simpa [World.setCell]using hg.2⟩)
 clear HP2
 have K1:Hid (BsS w3 (j9 w.heap.size w3) (.slice aA X.k1.length ac) X.k1):=iH (K1.out.grownP hp3.2.1)
 have K2:Hid (BsS w3 (j9 w.heap.size w3) (.slice bA X.k2.length bc) X.k2):=iH (K2.out.grownP hp3.2.1)
 have HP2:=iH hp3
 clear hw3 hp3 g
 refine ja 10 [some 13,some 14,some 15,some 16,some 17,some 18,some 19,some 20,some 21,some 22] [[],[0],[0,1],[0,1,2],[],[4],[4,5],[0,1,2,3,4,5,6],[0,1,2,3,4,5,6],[0,1,2,3,4,5,6,8]]
  (fun _ _ w1=>Below w3.heap.size w3 w1) (fun w1 w2=>Below w1.heap.size w1 w2)
  [.v (.pointer (some ⟨w.heap.size,9,none⟩)),
   .v (.pointer (some ⟨w.heap.size,9,none⟩)),
   .v (.slice aA X.k1.length ac),
   .p (fun v w1=>∃A c,v 3=.slice A X.k1.length c/\BsS w1 (New w3 w1) (.slice A X.k1.length c) X.k1) (fun _ _ _ _ _ hr ⟨A,c,h1,h2⟩=>⟨A,c,h1,h2.keep fun g hg hl=>⟨hr.block g hl,hg.1,iZ hl hr.size⟩⟩),
   .v (.pointer (some ⟨w.heap.size,9,none⟩)),
   .v (.pointer (some ⟨w.heap.size,10,none⟩)),
   .v (.slice bA X.k2.length bc),
   .p (fun v w1=>∃A c,v 7=.slice A X.k2.length c/\BsS w1 (New w3 w1) (.slice A X.k2.length c) X.k2) (fun _ _ _ _ _ hr ⟨A,c,h1,h2⟩=>⟨A,c,h1,h2.keep fun g hg hl=>⟨hr.block g hl,hg.1,iZ hl hr.size⟩⟩),
   .v (.pointer (some ⟨w.heap.size,9,none⟩)),
   .v (.pointer (some ⟨w.heap.size,9,none⟩))]
  (by kernel_rfl) (by kernel_rfl) rfl (fun _=>iB.drew) ?steps ?tail
 case steps=>
  simp only [List.take_succ_cons,List.take_zero]
  repeat' (with_reducible first|exact StepsRG.nil|refine StepsRG.cons ?_ ?_)
  all_goals(intro L v w1 hJ hL hF hD K hK;simp only [jb,Act.put,Nat.zero_add,Nat.reduceAdd,List.setIfInBounds_toArray,List.set_cons_zero,List.set_cons_succ,↓jZ,List.getD_cons_zero,List.getD_cons_succ,Nat.reduceEqDiff,↓reduceIte]at hD hK |-)
  all_goals(first
   |((try simp only [hD]at hK |-);go_simp;refine hK _ _ hJ iB ?_;first|exact rfl|exact jh _)
   |(have hp:=HP2.out.call hJ;(try simp only [hD]at hK |-);have q:=j4 hp.1;clear hp;go_simp;refine hK _ _ hJ iB ?_;first|exact rfl|exact jh _)
   |skip)
  ·simp only [hD]at hK |-
   go_simp
   refine(js _ X.k1 w1 (K1.out.onB hJ).loB).mono ?_
   rintro e wk ⟨v2,rfl,ho,hb⟩
   obtain⟨A2,c2,hv2⟩:=OwnB.form ho
   subst hv2
   refine hK _ _ (hJ.trans (hb.mono hJ.size)) hb ⟨_,_,rfl,?_⟩
   exact(OwnB.out ho (by have:=HLN.out;omega) w1 iL).keep fun g hg _=>⟨rfl,Nat.le_trans hJ.size hg.1,hg.2⟩
  ·simp only [hD]at hK |-
   go_simp
   refine(js _ X.k2 w1 (K2.out.onB hJ).loB).mono ?_
   rintro e wk ⟨v2,rfl,ho,hb⟩
   obtain⟨A2,c2,hv2⟩:=OwnB.form ho
   subst hv2
   refine hK _ _ (hJ.trans (hb.mono hJ.size)) hb ⟨_,_,rfl,?_⟩
   exact(OwnB.out ho (by have:=HLN.out;omega) w1 iL).keep fun g hg _=>⟨rfl,Nat.le_trans hJ.size hg.1,hg.2⟩
 case tail=>
  intro v w1 hJ hF hD
  simp only [kE]at hD
  obtain⟨e0,e1,e2,e4,e5,e6,e8,e9, -⟩:=hD
  simp only [List.drop_succ_cons,List.drop_zero,jb,Act.put,Nat.zero_add,Nat.reduceAdd,List.setIfInBounds_toArray,List.set_cons_zero,List.set_cons_succ]
  obtain⟨aB,ad,e3,hk1⟩:∃A c,v 3=_/\_:=hF 3 (by simp)
  obtain⟨bB,bd,e7,hk2⟩:∃A c,v 7=_/\_:=hF 7 (by simp)
  simp only [e0,e1,e2,e3,e4,e5,e6,e7,e8,e9]
  have hp4:=HP2.out.call hJ
  have f:=j4 hp4.1
  have HP4:=iH hp4;have N1:=iH hk1;have N2:=iH hk2;have HJ4:=iH hJ
  clear hJ hF hp4 hk1 hk2 e0 e1 e2 e3 e4 e5 e6 e7 e8 e9
  go_upto_region 4 with fail
  obtain⟨w5,hw5⟩:∃z,z=(w1.setCell ⟨w.heap.size,9,none⟩ (.slice aB X.k1.length ad)).setCell ⟨w.heap.size,10,none⟩ (.slice bB X.k2.length bd):=⟨_,rfl⟩
  rw [<-hw5]
  have hp5:PtW w.heap.size w0 w5 #[.int .i64 X.kd,.slice sB X.sec.length sd,.int .i64 X.pr,.int .i64 X.st,.slice nB X.non.length nd,.int .i64 X.x,.int .i64 X.g,.int .i64 X.own,.int .i64 X.oth,.slice aB X.k1.length ad,.slice bB X.k2.length bd,.int .i64 X.ct]:=by rw [hw5];exact(HP4.out.set 9 _).set 10 _
  clear f
  have f:=j4 hp5.1
  have hz5:w5.heap[w.heap.size+1]?=some (.cells #[.int .i64 0,.slice none 0 0,.int .i64 0,.int .i64 0,.slice none 0 0,.int .i64 0,.int .i64 0,.int .i64 0,.int .i64 0,.slice none 0 0,.slice none 0 0,.int .i64 0] 48 (0,0)):=(hp5.2.1.block (w.heap.size+1) (by have:=HSZ.out;omega) (by intro e;injection e with e;omega)).trans HZ0.out
  have z:=j4 hz5
  have HP5:=iH hp5;have HW5:=iH hw5;have HZ5:=iH hz5
  clear hp5 hw5 hz5
  go_wp2_with fail
  have hq:(set12 w5 (w.heap.size+1) (.int .i64 X.kd) (.slice sB X.sec.length sd) (.int .i64 X.pr) (.int .i64 X.st) (.slice nB X.non.length nd) (.int .i64 X.x) (.int .i64 X.g) (.int .i64 X.own) (.int .i64 X.oth) (.slice aB X.k1.length ad) (.slice bB X.k2.length bd) (.int .i64 X.ct)).heap[w.heap.size+1]?=some (.cells #[.int .i64 X.kd,.slice sB X.sec.length sd,.int .i64 X.pr,.int .i64 X.st,.slice nB X.non.length nd,.int .i64 X.x,.int .i64 X.g,.int .i64 X.own,.int .i64 X.oth,.slice aB X.k1.length ad,.slice bB X.k2.length bd,.int .i64 X.ct] 48 (0,0)):=((PtW.start HZ5.out).set12 (.int .i64 X.kd) (.slice sB X.sec.length sd) (.int .i64 X.pr) (.int .i64 X.st) (.slice nB X.non.length nd) (.int .i64 X.x) (.int .i64 X.g) (.int .i64 X.own) (.int .i64 X.oth) (.slice aB X.k1.length ad) (.slice bB X.k2.length bd) (.int .i64 X.ct)).1
  have y:=j4 hq
  unfold Go.Proofs.YtalmmiojbmpmiaaGreatDoor.set12 at y
  refine bodyPost_ret (v:=.agg #[.int .i64 X.kd,.slice sB X.sec.length sd,.int .i64 X.pr,.int .i64 X.st,.slice nB X.non.length nd,.int .i64 X.x,.int .i64 X.g,.int .i64 X.own,.int .i64 X.oth,.slice aB X.k1.length ad,.slice bB X.k2.length bd,.int .i64 X.ct]) (by simp [results,Tryz.results70,go_sem,y]) rfl ?_
  obtain⟨w6,hw6⟩:∃z,z=set12 w5 (w.heap.size+1) (.int .i64 X.kd) (.slice sB X.sec.length sd) (.int .i64 X.pr) (.int .i64 X.st) (.slice nB X.non.length nd) (.int .i64 X.x) (.int .i64 X.g) (.int .i64 X.own) (.int .i64 X.oth) (.slice aB X.k1.length ad) (.slice bB X.k2.length bd) (.int .i64 X.ct):=⟨_,rfl⟩
  have hfin:∀ {u:Value} {m:List UInt8},BsS w1 (New w0 w1) u m->BsS w6 (New w w6) u m:=fun {u m} h=>h.keep fun g hg hl=>⟨by rw [hw6,K6 (by have:=hg.1;have:=HSZ.out;omega),HW5.out,iO (by show g≠w.heap.size;have:=hg.1;have:=HSZ.out;omega),iO (by show g≠w.heap.size;have:=hg.1;have:=HSZ.out;omega)],by have:=hg.1;have:=HSZ.out;omega,by rw [hw6,KV,HW5.out];simpa [World.setCell]using hl⟩
  have hJs:=HJ4.out.size
  have hz3:=HP2.out.2.1.size
  have hup:∀ {u:Value} {m:List UInt8},BsS w3 (New w0 w3) u m->BsS w1 (New w0 w1) u m:=fun {u m} h=>h.keep fun g hg hl=>⟨HJ4.out.block g hl,hg.1,iZ hl hJs⟩
  have hbel:Below w.heap.size w w6:=by rw [hw6];exact HB0.out.trans ((HP5.out.2.2.mono iL) |>.trans ((PtW.set12 (PtW.start HZ5.out) (.int .i64 X.kd) (.slice sB X.sec.length sd) (.int .i64 X.pr) (.int .i64 X.st) (.slice nB X.non.length nd) (.int .i64 X.x) (.int .i64 X.g) (.int .i64 X.own) (.int .i64 X.oth) (.slice aB X.k1.length ad) (.slice bB X.k2.length bd) (.int .i64 X.ct)).2.2.mono (Nat.le_succ _)) |>.mono iL)
  unfold Go.Proofs.YtalmmiojbmpmiaaGreatDoor.set12 at hw6
  rw [<-hw6]
  exact⟨_,_,_,_,_,_,_,_,rfl,hfin (hup NS3.out),hfin (hup NN3.out),hfin (N1.out.keep fun g hg _=>⟨rfl,by have:=hg.1;omega,hg.2⟩),hfin (N2.out.keep fun g hg _=>⟨rfl,by have:=hg.1;omega,hg.2⟩),hbel⟩
section
variable {P:Nat} {w W:World} {a' b' c' d' e' f' g' h' i' j' k' l':Value}
section
variable(hp:PtW P w W #[a',b',c',d',e',f',g',h',i',j',k',l'])
include hp
theorem PtW.s12{a b c d e f g h i j k l:Value}:PtW P w (Go.Proofs.YtalmmiojbmpmiaaGreatDoor.set12 W P a b c d e f g h i j k l) #[a,b,c,d,e,f,g,h,i,j,k,l]:=hp.set12 a b c d e f g h i j k l
theorem PtW.z12:PtW P w (Go.Proofs.YtalmmiojbmpmiaaGreatDoor.set12 W P (.int .i64 0) (.slice none 0 0) (.int .i64 0) (.int .i64 0) (.slice none 0 0) (.int .i64 0) (.int .i64 0) (.int .i64 0) (.int .i64 0) (.slice none 0 0) (.slice none 0 0) (.int .i64 0)) #[.int .i64 0,.slice none 0 0,.int .i64 0,.int .i64 0,.slice none 0 0,.int .i64 0,.int .i64 0,.int .i64 0,.int .i64 0,.slice none 0 0,.slice none 0 0,.int .i64 0]:=hp.s12
end
end
theorem YN(X:Exg)(sA nA aA bA:Option Addr)(sc nc ac bc:Nat){w:World}{v1 v2 v3 v4 v5 v6:Value}{l1 l2 l3 l4 l5 l6:List UInt8}(h1:Bs w w.heap.size v1 l1)(h2:Bs w w.heap.size v2 l2)(h3:Bs w w.heap.size v3 l3)(h4:Bs w w.heap.size v4 l4)(h5:Bs w w.heap.size v5 l5)(h6:Bs w w.heap.size v6 l6):
 ∃w0,Hid (w0=(w.alloc (.cells #[.int .i64 X.kd,.slice sA X.sec.length sc,.int .i64 X.pr,.int .i64 X.st,.slice nA X.non.length nc,.int .i64 X.x,.int .i64 X.g,.int .i64 X.own,.int .i64 X.oth,.slice aA X.k1.length ac,.slice bA X.k2.length bc,.int .i64 X.ct] 48)).alloc (.cells #[.int .i64 0,.slice none 0 0,.int .i64 0,.int .i64 0,.slice none 0 0,.int .i64 0,.int .i64 0,.int .i64 0,.int .i64 0,.slice none 0 0,.slice none 0 0,.int .i64 0] 48))/\Hid (Below w.heap.size w w0)/\Hid (w0.heap.size=w.heap.size+2)/\Hid (∀W,Below w0.heap.size w0 W->W.heap[w.heap.size]?=some (.cells #[.int .i64 X.kd,.slice sA X.sec.length sc,.int .i64 X.pr,.int .i64 X.st,.slice nA X.non.length nc,.int .i64 X.x,.int .i64 X.g,.int .i64 X.own,.int .i64 X.oth,.slice aA X.k1.length ac,.slice bA X.k2.length bc,.int .i64 X.ct] 48 (0,0)))/\Hid (∀W,Below w0.heap.size w0 W->W.heap[w.heap.size+1]?=some (.cells #[.int .i64 0,.slice none 0 0,.int .i64 0,.int .i64 0,.slice none 0 0,.int .i64 0,.int .i64 0,.int .i64 0,.int .i64 0,.slice none 0 0,.slice none 0 0,.int .i64 0] 48 (0,0)))/\Hid (Bs w0 w0.heap.size v1 l1)/\Hid (Bs w0 w0.heap.size v2 l2)/\Hid (Bs w0 w0.heap.size v3 l3)/\Hid (Bs w0 w0.heap.size v4 l4)/\Hid (Bs w0 w0.heap.size v5 l5)/\Hid (Bs w0 w0.heap.size v6 l6):=by
 obtain⟨w0,hw0⟩:∃w0,w0=(w.alloc (.cells #[.int .i64 X.kd,.slice sA X.sec.length sc,.int .i64 X.pr,.int .i64 X.st,.slice nA X.non.length nc,.int .i64 X.x,.int .i64 X.g,.int .i64 X.own,.int .i64 X.oth,.slice aA X.k1.length ac,.slice bA X.k2.length bc,.int .i64 X.ct] 48)).alloc (.cells #[.int .i64 0,.slice none 0 0,.int .i64 0,.int .i64 0,.slice none 0 0,.int .i64 0,.int .i64 0,.int .i64 0,.int .i64 0,.slice none 0 0,.slice none 0 0,.int .i64 0] 48):=⟨_,rfl⟩
 have hb0:Below w.heap.size w w0:=by rw [hw0];exact(iA).alloc (by simp) _
 have hz0:w0.heap.size=w.heap.size+2:=by rw [hw0];simp
 have FR:Hid (∀W,Below w0.heap.size w0 W->W.heap[w.heap.size]?=some (.cells #[.int .i64 X.kd,.slice sA X.sec.length sc,.int .i64 X.pr,.int .i64 X.st,.slice nA X.non.length nc,.int .i64 X.x,.int .i64 X.g,.int .i64 X.own,.int .i64 X.oth,.slice aA X.k1.length ac,.slice bA X.k2.length bc,.int .i64 X.ct] 48 (0,0))):=iH (fun W h=>(h.block w.heap.size (by omega)).trans (by rw [hw0];exact(Below.heap_alloc _ _ _ (by simp)).trans (iN)))
 have FZ:Hid (∀W,Below w0.heap.size w0 W->W.heap[w.heap.size+1]?=some (.cells #[.int .i64 0,.slice none 0 0,.int .i64 0,.int .i64 0,.slice none 0 0,.int .i64 0,.int .i64 0,.int .i64 0,.int .i64 0,.slice none 0 0,.slice none 0 0,.int .i64 0] 48 (0,0))):=iH (fun W h=>(h.block (w.heap.size+1) (by omega)).trans (by rw [hw0];exact(show((w.alloc (.cells #[.int .i64 X.kd,.slice sA X.sec.length sc,.int .i64 X.pr,.int .i64 X.st,.slice nA X.non.length nc,.int .i64 X.x,.int .i64 X.g,.int .i64 X.own,.int .i64 X.oth,.slice aA X.k1.length ac,.slice bA X.k2.length bc,.int .i64 X.ct] 48)).alloc (.cells #[.int .i64 0,.slice none 0 0,.int .i64 0,.int .i64 0,.slice none 0 0,.int .i64 0,.int .i64 0,.int .i64 0,.int .i64 0,.slice none 0 0,.slice none 0 0,.int .i64 0] 48)).heap[w.heap.size+1]?=_ from by have:=heap_alloc_new (w.alloc (.cells #[.int .i64 X.kd,.slice sA X.sec.length sc,.int .i64 X.pr,.int .i64 X.st,.slice nA X.non.length nc,.int .i64 X.x,.int .i64 X.g,.int .i64 X.own,.int .i64 X.oth,.slice aA X.k1.length ac,.slice bA X.k2.length bc,.int .i64 X.ct] 48)) (.cells #[.int .i64 0,.slice none 0 0,.int .i64 0,.int .i64 0,.slice none 0 0,.int .i64 0,.int .i64 0,.int .i64 0,.int .i64 0,.slice none 0 0,.slice none 0 0,.int .i64 0] 48);simpa using this)))
 exact⟨w0,hw0,hb0,hz0,FR,FZ,h1.lift hb0,h2.lift hb0,h3.lift hb0,h4.lift hb0,h5.lift hb0,h6.lift hb0⟩
theorem QF(l:List UInt8)(h:7<=l.length)(v:Value)(w:World)(hv:Bs w w.heap.size v l):
 Calls Tryz.prog 58 #[v] w fun e w'=>e=.returned (.int .i64 (zn (l.take 7)))/\w'=w:=by
 obtain⟨A,c,rfl⟩:=Bs.formL hv
 have hc:=(show l.length<=c by obtain⟨a,c',e,q1,_⟩:=hv;obtain⟨_,_,hc⟩:=Value.slice.inj e;omega)
 have hc9:=(show c<=9223372036854775807 by obtain⟨a,c',e,_,q2,_⟩:=hv;obtain⟨_,_,hc⟩:=Value.slice.inj e;omega)
 obtain⟨z,hz,hz9,hq⟩:=j58 l h
 have HC:=iH (BsS.cut hv (k:=7) (d:=c) h (by omega) hc9)
 have HZ:=iH hz;have HQ:=iH hq
 clear hv hz hq
 go_enter Tryz.func58,Tryz.ntmps58
 go_wp2_with(go_at_call 118;refine iR (x6 _ _ _ w HC.out) ?_;rw [HQ.out])
 go_ret
 exact⟨by rw [HZ.out]<;>rfl,rfl⟩
theorem Uv(k x:Int)(h:okS k=false)(w:World):Calls Tryz.prog 56 #[.int .i64 k,.int .i64 x] w fun e w'=>e=.returned (.tuple #[.int .i64 0,.int .i64 3])/\w'=w:=by
 have H:=iH h
 clear h
 go_enter Tryz.func56,Tryz.ntmps56
 go_wp2_with(first
  |(go_at_call 114;refine iR (xg k w) ?_;rw [H.out]))
 go_ret2
 exact⟨rfl,rfl⟩
theorem ZJ(k x:Int)(h:(okS k=true/\jk x=false))(w:World):Calls Tryz.prog 56 #[.int .i64 k,.int .i64 x] w fun e w'=>e=.returned (.tuple #[.int .i64 0,.int .i64 10])/\w'=w:=by
 have H:=iH h
 clear h
 go_enter Tryz.func56,Tryz.ntmps56
 go_wp2_with(first
  |(go_at_call 114;refine iR (xg k w) ?_;rw [H.out.1])
  |(go_at_call 115;refine iR (km x w) ?_;rw [H.out.2]))
 go_ret2
 exact⟨rfl,rfl⟩
theorem ZW(k x:Int)(h:okS k=false)(w:World):Calls Tryz.prog 60 #[.int .i64 k,.int .i64 x] w fun e w'=>e=.returned (.tuple #[.int .i64 0,.int .i64 3])/\w'=w:=by
 have H:=iH h
 clear h
 go_enter Tryz.func60,Tryz.ntmps60
 go_wp2_with(first
  |(go_at_call 119;refine iR (qa k w) ?_;rw [H.out]))
 go_ret2
 exact⟨rfl,rfl⟩
theorem Z1(k x:Int)(h:(okS k=true/\jk x=false))(w:World):Calls Tryz.prog 60 #[.int .i64 k,.int .i64 x] w fun e w'=>e=.returned (.tuple #[.int .i64 0,.int .i64 10])/\w'=w:=by
 have H:=iH h
 clear h
 go_enter Tryz.func60,Tryz.ntmps60
 go_wp2_with(first
  |(go_at_call 119;refine iR (qa k w) ?_;rw [H.out.1])
  |(go_at_call 29;refine iR (jL x w) ?_;rw [H.out.2]))
 go_ret2
 exact⟨rfl,rfl⟩
section
variable(n:List UInt8)(v:Value)(k o:Int)(w:World)(hv:Bs w w.heap.size v n)
include n v k o w hv
theorem xe:
 Calls Tryz.prog 23 #[v,.int .i64 k,.int .i64 o] w fun e w'=>e=.returned (.tuple #[.int .i64 (qT n k o).2,.int .i64 (qT n k o).1])/\w'=w:=by
 obtain⟨A,c,rfl⟩:=Bs.formL hv
 have HV:=iH hv
 clear hv
 by_cases hl:n.length=16
 ·have t1:((n.length:Int) != 16)=false:=by simp;omega
  have HL:=iH hl
  rcases hk:okS k with _|_
  ·have R:Hid (qT n k o=(3,0)):=iH (by unfold qT;rw [iF (fun h=>h hl),iT hk])
   have HSH:=iH (Uv k o hk)
   clear hl hk
   go_enter Tryz.func23,Tryz.ntmps23
   go_wp2_with(go_at_call 56;refine iR (HSH.out w) ?_)
   go_ret2
   rw [R.out]
   exact⟨rfl,rfl⟩
  rcases ho:jk o with _|_
  ·have R:Hid (qT n k o=(10,0)):=iH (by unfold qT;rw [iF (fun h=>h hl),iF (by rw [hk];simp),iT ho])
   have HSH:=iH (ZJ k o ⟨hk,ho⟩)
   clear hl hk ho
   go_enter Tryz.func23,Tryz.ntmps23
   go_wp2_with(go_at_call 56;refine iR (HSH.out w) ?_)
   go_ret2
   rw [R.out]
   exact⟨rfl,rfl⟩
  have hki:=yP hk
  have hoi:=jF ho
  obtain⟨kn,rfl⟩:∃a:Nat,k=a:=⟨k.toNat,by omega⟩
  obtain⟨on,rfl⟩:∃a:Nat,o=a:=⟨o.toNat,by omega⟩
  have HSH:=iH (JD kn on (by omega) (by omega) ho)
  obtain⟨z,hz,hz9,_⟩:=j58 n (by omega)
  obtain⟨p,hp4⟩:∃p,gpw 64 1 4 (z % 1073741789)=p:=⟨_,rfl⟩
  obtain⟨q,hq4⟩:∃q,gpw 64 1 on kn=q:=⟨_,rfl⟩
  have hq0:0<q/\q<2147483579:=by
   have h:=jF (kg on kn ho hk)
   rw [show jM on kn=((gpw 64 1 on kn:Nat):Int) from rfl,hq4]at h
   omega
  have hp0:0<p:=by
   by_cases h0:z % 1073741789=0
   ·rw [h0,xW]at hp4;omega
   ·have h:=jF (kg 4 (z % 1073741789:Nat) xE (by unfold okS;exact decide_eq_true (by omega)))
    rw [show jM 4 ((z % 1073741789:Nat):Int)=((gpw 64 1 4 (z % 1073741789):Nat):Int) from rfl,hp4]at h
    omega
  have hp9:p<2147483579:=by rw [<-hp4];exact XE 64 1 4 _ (by decide)
  have hq9:q<2147483579:=hq0.2
  have hG:j29 n kn on=((p*q % 2147483579:Nat):Int):=by
   unfold j29
   rw [hz,show jM on kn=((gpw 64 1 on kn:Nat):Int) from rfl,hq4,show(z:Int) % 1073741789=((z % 1073741789:Nat):Int)by omega,show jM 4 ((z % 1073741789:Nat):Int)=((gpw 64 1 4 (z % 1073741789):Nat):Int) from rfl,hp4]
   omega
  have HZ:=iH hz
  have HZM:Hid (zn (n.take 7) % (1073741789:Nat)=((z % 1073741789:Nat):Int)):=iH (by rw [hz];omega)
  have hpz:z % 1073741789<1073741789:=Nat.mod_lt _ (by decide)
  have hq1:=hq0.1
  rw [hq4]at HSH
  have HPW:=iH (KE 4 (z % 1073741789) (by omega) (by omega) (by omega))
  rw [hp4]at HPW
  have HMU:=iH (YB p q (by omega) (by omega) (by omega) (by omega))
  have e1:=QK z 1073741789
  obtain⟨pq,hpq⟩:∃pq,p*q % 2147483579=pq:=⟨_,rfl⟩
  rw [hpq]at hG
  rw [hpq]at HMU
  by_cases h1:pq=1
  ·have R:Hid (qT n kn on=(10,0)):=iH (by unfold qT;rw [iF (fun h=>h hl),iF (by rw [hk];simp),iF (by rw [ho];simp),hG,iT (by omega)])
   subst h1
   clear hl hk ho hki hoi hz hp4 hq4 hq0 hp0 hG hq1 hpq
   go_enter Tryz.func23,Tryz.ntmps23
   go_wp2_with(first
    |(go_at_call 59;refine iR (HMU.out w) ?_)
    |(go_at_call 57;refine iR (HPW.out w) ?_)
    |(go_at_call 58;refine(QF n (by rw [HL.out];omega) _ w HV.out).mono ?_;rw [HZ.out];rintro e w' ⟨rfl,hw'⟩;rw [hw'];clear hw' w')
    |(go_at_call 56;refine iR (HSH.out w) ?_))
   go_ret2
   rw [R.out]
   exact⟨rfl,rfl⟩
  ·have R:Hid (qT n kn on=(0,(pq:Int))):=iH (by unfold qT;rw [iF (fun h=>h hl),iF (by rw [hk];simp),iF (by rw [ho];simp),hG,iF (by omega)])
   have t2:((pq:Int)==1)=false:=by simp;omega
   clear hl hk ho hki hoi hz hp4 hq4 hq0 hp0 hG hq1 hpq h1
   go_enter Tryz.func23,Tryz.ntmps23
   go_wp2_with(first
    |(go_at_call 59;refine iR (HMU.out w) ?_)
    |(go_at_call 57;refine iR (HPW.out w) ?_)
    |(go_at_call 58;refine(QF n (by rw [HL.out];omega) _ w HV.out).mono ?_;rw [HZ.out];rintro e w' ⟨rfl,hw'⟩;rw [hw'];clear hw' w')
    |(go_at_call 56;refine iR (HSH.out w) ?_))
   go_ret2
   rw [R.out]
   exact⟨rfl,rfl⟩
 ·have R:Hid (qT n k o=(2,0)):=iH (by unfold qT;rw [iT hl])
  have t1:((n.length:Int) != 16)=true:=by simp;omega
  clear hl
  go_enter Tryz.func23,Tryz.ntmps23
  go_wp2_with fail
  go_ret2
  rw [R.out]
  exact⟨rfl,rfl⟩
theorem qR:
 Calls Tryz.prog 24 #[v,.int .i64 k,.int .i64 o] w fun e w'=>e=.returned (.tuple #[.int .i64 (qT n k o).2,.int .i64 (qT n k o).1])/\w'=w:=by
 obtain⟨A,c,rfl⟩:=Bs.formL hv
 have HV:=iH hv
 clear hv
 by_cases hl:n.length=16
 ·have t1:((n.length:Int) != 16)=false:=by simp;omega
  have HL:=iH hl
  rcases hk:okS k with _|_
  ·have R:Hid (qT n k o=(3,0)):=iH (by unfold qT;rw [iF (fun h=>h hl),iT hk])
   have HSH:=iH (ZW k o hk)
   clear hl hk
   go_enter Tryz.func24,Tryz.ntmps24
   go_wp2_with(go_at_call 60;refine iR (HSH.out w) ?_)
   go_ret2
   rw [R.out]
   exact⟨rfl,rfl⟩
  rcases ho:jk o with _|_
  ·have R:Hid (qT n k o=(10,0)):=iH (by unfold qT;rw [iF (fun h=>h hl),iF (by rw [hk];simp),iT ho])
   have HSH:=iH (Z1 k o ⟨hk,ho⟩)
   clear hl hk ho
   go_enter Tryz.func24,Tryz.ntmps24
   go_wp2_with(go_at_call 60;refine iR (HSH.out w) ?_)
   go_ret2
   rw [R.out]
   exact⟨rfl,rfl⟩
  have hki:=yP hk
  have hoi:=jF ho
  obtain⟨kn,rfl⟩:∃a:Nat,k=a:=⟨k.toNat,by omega⟩
  obtain⟨on,rfl⟩:∃a:Nat,o=a:=⟨o.toNat,by omega⟩
  have HSH:=iH (Z0 kn on (by omega) (by omega) ho)
  obtain⟨z,hz,hz9,_⟩:=j58 n (by omega)
  obtain⟨p,hp4⟩:∃p,gpw 64 1 4 (z % 1073741789)=p:=⟨_,rfl⟩
  obtain⟨q,hq4⟩:∃q,gpw 64 1 on kn=q:=⟨_,rfl⟩
  have hq0:0<q/\q<2147483579:=by
   have h:=jF (kg on kn ho hk)
   rw [show jM on kn=((gpw 64 1 on kn:Nat):Int) from rfl,hq4]at h
   omega
  have hp0:0<p:=by
   by_cases h0:z % 1073741789=0
   ·rw [h0,xW]at hp4;omega
   ·have h:=jF (kg 4 (z % 1073741789:Nat) xE (by unfold okS;exact decide_eq_true (by omega)))
    rw [show jM 4 ((z % 1073741789:Nat):Int)=((gpw 64 1 4 (z % 1073741789):Nat):Int) from rfl,hp4]at h
    omega
  have hp9:p<2147483579:=by rw [<-hp4];exact XE 64 1 4 _ (by decide)
  have hq9:q<2147483579:=hq0.2
  have hG:j29 n kn on=((p*q % 2147483579:Nat):Int):=by
   unfold j29
   rw [hz,show jM on kn=((gpw 64 1 on kn:Nat):Int) from rfl,hq4,show(z:Int) % 1073741789=((z % 1073741789:Nat):Int)by omega,show jM 4 ((z % 1073741789:Nat):Int)=((gpw 64 1 4 (z % 1073741789):Nat):Int) from rfl,hp4]
   omega
  have HZ:=iH hz
  have HZM:Hid (zn (n.take 7) % (1073741789:Nat)=((z % 1073741789:Nat):Int)):=iH (by rw [hz];omega)
  have hpz:z % 1073741789<1073741789:=Nat.mod_lt _ (by decide)
  have hq1:=hq0.1
  rw [hq4]at HSH
  have HPW:=iH (fun w=>Jj 4 (z % 1073741789) w (by omega) (by omega))
  rw [hp4]at HPW
  have HM:=iH (JG hp9 hq9)
  obtain⟨pq,hpq⟩:∃pq,p*q % 2147483579=pq:=⟨_,rfl⟩
  rw [hpq]at hG
  rw [hpq]at HM
  by_cases h1:pq=1
  ·have R:Hid (qT n kn on=(10,0)):=iH (by unfold qT;rw [iF (fun h=>h hl),iF (by rw [hk];simp),iF (by rw [ho];simp),hG,iT (by omega)])
   subst h1
   have hmm:=HM.out
   clear hl hk ho hki hoi hz hp4 hq4 hq0 hp0 hG hq1 hpq
   go_enter Tryz.func24,Tryz.ntmps24
   go_wp2_with(first
    |(go_at_call 61;refine iR (HPW.out w) ?_)
    |(go_at_call 62;refine(y7 n (by rw [HL.out];omega) 1073741789 (by omega) (by omega) _ w HV.out).mono ?_;rw [HZM.out];rintro e w' ⟨rfl,hw'⟩;rw [hw'];clear hw' w')
    |(go_at_call 60;refine iR (HSH.out w) ?_))
   go_ret2
   rw [R.out]
   exact⟨rfl,rfl⟩
  ·have R:Hid (qT n kn on=(0,(pq:Int))):=iH (by unfold qT;rw [iF (fun h=>h hl),iF (by rw [hk];simp),iF (by rw [ho];simp),hG,iF (by omega)])
   have t2:((pq:Int)==1)=false:=by simp;omega
   have hmm:=HM.out
   clear hl hk ho hki hoi hz hp4 hq4 hq0 hp0 hG hq1 hpq h1
   go_enter Tryz.func24,Tryz.ntmps24
   go_wp2_with(first
    |(go_at_call 61;refine iR (HPW.out w) ?_)
    |(go_at_call 62;refine(y7 n (by rw [HL.out];omega) 1073741789 (by omega) (by omega) _ w HV.out).mono ?_;rw [HZM.out];rintro e w' ⟨rfl,hw'⟩;rw [hw'];clear hw' w')
    |(go_at_call 60;refine iR (HSH.out w) ?_))
   go_ret2
   rw [R.out]
   exact⟨rfl,rfl⟩
 ·have R:Hid (qT n k o=(2,0)):=iH (by unfold qT;rw [iT hl])
  have t1:((n.length:Int) != 16)=true:=by simp;omega
  clear hl
  go_enter Tryz.func24,Tryz.ntmps24
  go_wp2_with fail
  go_ret2
  rw [R.out]
  exact⟨rfl,rfl⟩
end
theorem XG(n r:List UInt8)(v u:Value)(w:World)(hK:KD w)(hv:Bs w w.heap.size v n)(hu:Bs w w.heap.size u r):
 Calls Tryz.prog 27 #[v,u] w fun e w'=>e=.returned (.tuple #[.int .i64 (yj n r).2,.int .i64 (yj n r).1])/\Below w.heap.size w w':=by
 obtain⟨A,c,rfl⟩:=Bs.formL hv
 obtain⟨B,d,rfl⟩:=Bs.formL hu
 have HV:=iH hv;have HR:=iH hu;have HK:=iH hK
 clear hv hu hK
 by_cases hl:n.length=16
 ·have t1:((n.length:Int) != 16)=false:=by simp;omega
  by_cases hr:r.length=16
  ·have t2:((r.length:Int) != 16)=false:=by simp;omega
   obtain⟨z,hz,hz9,_⟩:=j58 (xw (n++r)) (by rw [je];omega)
   obtain⟨x,hx⟩:∃x:Nat,x=2+z % 2147483576:=⟨_,rfl⟩
   have hi:j61 n r=x:=by unfold j61;rw [hz];omega
   obtain⟨y,hxx⟩:∃y,x*x % 2147483579=y:=⟨_,rfl⟩
   have R:Hid (yj n r=(0,(y:Int))):=iH (by unfold yj;rw [iF (by simp [hl,hr]),hi];refine Prod.ext rfl ?_;show(x:Int)*x % 2147483579=y;omega)
   have HZ:=iH hz;have HLN:=iH hl;have HLR:=iH hr
   have HZM:Hid (zn ((xw (n++r)).take 7) % (2147483576:Nat)=((z % 2147483576:Nat):Int)):=iH (by rw [hz];omega)
   obtain⟨w1,hw1⟩:∃w1,w1=w.alloc (.cells #[.slice A n.length c,.slice B r.length d] 22):=⟨_,rfl⟩
   have HB1:Hid (Below w.heap.size w w1):=iH (by rw [hw1];exact jo _ _)
   have hh:w1.heap[w.heap.size]?=some (.cells #[.slice A n.length c,.slice B r.length d] 22 (0,0)):=by rw [hw1];exact iN
   have e:Ju [(Value.slice A n.length c,n),(Value.slice B r.length d,r)]=n++r:=by simp [Ju]
   have HC:=iH (Kw [(Value.slice A n.length c,n),(Value.slice B r.length d,r)] w.heap.size (·<w.heap.size) w1 22 hh (by
    intro p hp
    simp only [List.mem_cons,List.not_mem_nil,or_false]at hp
    rcases hp with rfl|rfl
    ·exact BsS.keep HV.out fun g hs hl=>⟨HB1.out.block g hl,hs⟩
    ·exact BsS.keep HR.out fun g hs hl=>⟨HB1.out.block g hl,hs⟩) (by rw [e,List.length_append];omega) (by simp))
   rw [e]at HC
   have HW1:=iH hw1
   have HMU:=iH (YB x x (by omega) (by omega) (by omega) (by omega))
   have e1:=QK z 2147483576
   rw [hxx]at HMU
   clear hw1 hh e
   subst hx
   clear hz hl hr hi hxx
   go_enter Tryz.func27,Tryz.ntmps27
   go_wp2_with(first
   |(go_at_call 59;refine iR (HMU.out w3) ?_)
   |(go_at_call 58;refine(QF (xw (n++r)) (by rw [je];omega) _ w3 HS3.out).mono ?_;rw [HZ.out];rintro e w' ⟨rfl,hw'⟩;rw [hw'];clear hw' w')
   |(go_at_call 46;refine(Yb _ (n++r) (by have h1:=HLN.out;have h2:=HLR.out;rw [List.length_append];omega) w2 (HK.out.below HB2.out HK.out.lt) HS2.out).mono ?_;rintro e w3 ⟨v3,rfl,hs,hb⟩;have HS3:Hid (Bs w3 w3.heap.size v3 (xw (n++r))):=iH (BsS.keep hs fun g hg _=>⟨rfl,hg.2⟩);have HB3:=iH (HB2.out.trans (hb.mono HB2.out.size));clear hs hb)
   |(go_at_call 63;rw [<-HW1.out];refine HC.out.mono ?_;rintro e w2 ⟨v2,rfl,ho,hb2⟩;have HS2:Hid (Bs w2 w2.heap.size v2 (n++r)):=iH (ho.bs (by have h1:=HLN.out;have h2:=HLR.out;rw [List.length_append];omega));have HB2:Hid (Below w.heap.size w w2):=iH (HB1.out.trans (hb2.mono HB1.out.size));clear ho hb2))
   go_ret2
   rw [R.out]
   exact⟨rfl,HB3.out⟩
  ·have R:Hid (yj n r=(2,0)):=iH (by unfold yj;rw [iT (fun h=>hr h.2)])
   have t2:((r.length:Int) != 16)=true:=by simp;omega
   clear hl hr
   go_enter Tryz.func27,Tryz.ntmps27
   go_wp2_with fail
   go_ret2
   rw [R.out]
   exact⟨rfl,Below.refl _ _⟩
 ·have R:Hid (yj n r=(2,0)):=iH (by unfold yj;rw [iT (fun h=>hl h.1)])
  have t1:((n.length:Int) != 16)=true:=by simp;omega
  clear hl
  go_enter Tryz.func27,Tryz.ntmps27
  go_wp2_with fail
  go_ret2
  rw [R.out]
  exact⟨rfl,Below.refl _ _⟩
theorem KQ(n r:List UInt8)(v u:Value)(w:World)(hK:KR w)(hv:Bs w w.heap.size v n)(hu:Bs w w.heap.size u r):
 Calls Tryz.prog 28 #[v,u] w fun e w'=>e=.returned (.tuple #[.int .i64 (yj n r).2,.int .i64 (yj n r).1])/\Below w.heap.size w w':=by
 obtain⟨A,c,rfl⟩:=Bs.formL hv
 obtain⟨B,d,rfl⟩:=Bs.formL hu
 have HV:=iH hv;have HR:=iH hu;have HK:=iH hK
 clear hv hu hK
 by_cases hl:n.length=16
 ·have t1:((n.length:Int) != 16)=false:=by simp;omega
  by_cases hr:r.length=16
  ·have t2:((r.length:Int) != 16)=false:=by simp;omega
   obtain⟨z,hz,hz9,_⟩:=j58 (xw (n++r)) (by rw [je];omega)
   obtain⟨x,hx⟩:∃x:Nat,x=2+z % 2147483576:=⟨_,rfl⟩
   have hi:j61 n r=x:=by unfold j61;rw [hz];omega
   obtain⟨y,hxx⟩:∃y,x*x % 2147483579=y:=⟨_,rfl⟩
   have R:Hid (yj n r=(0,(y:Int))):=iH (by unfold yj;rw [iF (by simp [hl,hr]),hi];refine Prod.ext rfl ?_;show(x:Int)*x % 2147483579=y;omega)
   have HZ:=iH hz;have HLN:=iH hl;have HLR:=iH hr
   have HZM:Hid (zn ((xw (n++r)).take 7) % (2147483576:Nat)=((z % 2147483576:Nat):Int)):=iH (by rw [hz];omega)
   have HM:=iH (JG (show x<2147483579 by omega) (show x<2147483579 by omega))
   rw [hxx,hx]at HM
   subst hx
   clear hz hl hr hi hxx
   go_enter Tryz.func28,Tryz.ntmps28
   go_wp2_with(first
   |(go_at_call 62;refine(y7 (xw (n++r)) (by rw [je];omega) 2147483576 (by omega) (by omega) _ w3 HS3.out).mono ?_;rw [HZM.out];rintro e w' ⟨rfl,hw'⟩;rw [hw'];clear hw' w')
   |(go_at_call 49;refine(y9 _ (n++r) (by have h1:=HLN.out;have h2:=HLR.out;rw [List.length_append];omega) w2 (HK.out.below HB2.out HK.out.lt) HS2.out).mono ?_;rintro e w3 ⟨v3,rfl,hs,hb⟩;have HS3:Hid (Bs w3 w3.heap.size v3 (xw (n++r))):=iH (BsS.keep hs fun g hg _=>⟨rfl,hg.2⟩);have HB3:=iH (HB2.out.trans (hb.mono HB2.out.size));clear hs hb)
   |(go_at_call 64;refine(Jd _ _ n r _ _ w HV.out HR.out (by have h1:=HLN.out;have h2:=HLR.out;omega)).mono ?_;rintro e w2 ⟨v2,rfl,ho,hb2⟩;have HS2:Hid (Bs w2 w2.heap.size v2 (n++r)):=iH (ho.bs (by have h1:=HLN.out;have h2:=HLR.out;rw [List.length_append];omega));have HB2:Hid (Below w.heap.size w w2):=iH hb2;clear ho hb2))
   go_ret2
   rw [R.out]
   refine⟨?_,HB3.out⟩
   have e:=HM.out
   rw [show(((2+z % 2147483576:Nat)):Int)=2+(z:Int) % 2147483576 by omega]at e
   show Ending.returned (.tuple #[.int .i64 ((wrap64 ((2+(z:Int) % 2147483576)*(2+(z:Int) % 2147483576))).tmod 2147483579),.int .i64 0])=_
   rw [e]
  ·have R:Hid (yj n r=(2,0)):=iH (by unfold yj;rw [iT (fun h=>hr h.2)])
   have t2:((r.length:Int) != 16)=true:=by simp;omega
   clear hl hr
   go_enter Tryz.func28,Tryz.ntmps28
   go_wp2_with fail
   go_ret2
   rw [R.out]
   exact⟨rfl,Below.refl _ _⟩
 ·have R:Hid (yj n r=(2,0)):=iH (by unfold yj;rw [iT (fun h=>hl h.1)])
  have t1:((n.length:Int) != 16)=true:=by simp;omega
  clear hl
  go_enter Tryz.func28,Tryz.ntmps28
  go_wp2_with fail
  go_ret2
  rw [R.out]
  exact⟨rfl,Below.refl _ _⟩
section
variable(P:Nat)(X:Exg)(sA nA aA bA:Option Addr)(sc nc ac bc:Nat)(vA eA:Option Addr)(vc ec:Nat)(v s:List UInt8)(w:World)(hK:∀W,Below P w W->KD W)(hr:w.heap[P]?=some (.cells (exX X sA nA aA bA sc nc ac bc) 48 (0,0)))(h1:BsS w (j9 P w) (.slice sA X.sec.length sc) X.sec)(h2:BsS w (j9 P w) (.slice nA X.non.length nc) X.non)(h3:BsS w (j9 P w) (.slice aA X.k1.length ac) X.k1)(h4:BsS w (j9 P w) (.slice bA X.k2.length bc) X.k2)(h5:BsS w (j9 P w) (.slice vA v.length vc) v)(h6:BsS w (j9 P w) (.slice eA s.length ec) s)(hl:s.length<=140737488351232)
include P X sA nA aA bA sc nc ac bc vA eA vc ec v s w hK hr h1 h2 h3 h4 h5 h6 hl
theorem Vn:
 Calls Tryz.prog 89 #[.pointer (some ⟨P,0,none⟩),.slice vA v.length vc,.slice eA s.length ec] w (ym P w (-1) X [] s):=by
 have HP0:Hid (PtW P w w (exX X sA nA aA bA sc nc ac bc)):=iH (PtW.start hr)
 have HK:=iH hK;have Gs0:=iH h1;have Gn0:=iH h2;have Ga0:=iH h3;have Gb0:=iH h4;have Gv0:=iH h5;have Ge0:=iH h6;have HL:=iH hl
 have f:=j4 hr
 clear hK hr h1 h2 h3 h4 h5 h6 hl
 go_enter Tryz.func89,Tryz.ntmps89
 go_wp2_with(go_at_call 67;refine(js _ s w Ge0.out.loB).mono ?_;rintro e w1 ⟨v2,rfl,ho,hb⟩;obtain⟨cA,cc,hv2⟩:=OwnB.form ho;subst hv2;have HC:Hid (BsS w1 (j9 P w1) (.slice cA s.length cc) s):=iH (BsS.madeB (OwnB.out ho (by have:=HL.out;omega) w iL) HP0.out.lt);have Gs1:=iH (Gs0.out.onB hb);have Gn1:=iH (Gn0.out.onB hb);have Ga1:=iH (Ga0.out.onB hb);have Gb1:=iH (Gb0.out.onB hb);have Gv1:=iH (Gv0.out.onB hb);have Ge1:=iH (Ge0.out.onB hb);have hp:=HP0.out.call hb;have HP1:=iH hp;obtain⟨g0,g1,g2,g3,g4,g5,g6,g7,g8,g9,g10,g11,gf⟩:=j4 hp.1;clear hp f;clear ho hb)
 refine bodyPost_ret (v:=.tuple #[.int .i64 (-1),.slice none 0 0,.slice cA s.length cc,.int .i64 0]) (by simp [results,Tryz.results89,go_sem]) rfl ?_
 exact⟨_,_,_,_,rfl,⟨_,_,_,_,_,_,_,_,HP1.out,Gs1.out,Gn1.out,Ga1.out,Gb1.out⟩,k8 _ _,HC.out⟩
theorem zR(hp:vPw X.kd X.sec=true):
 Calls Tryz.prog 71 #[.pointer (some ⟨P,0,none⟩),.slice vA v.length vc,.slice eA s.length ec] w (ym P w 128 {X with non:=jt s 16} (qr X.kd X.sec (jt s 16)).2 (sdW s)):=by
 obtain⟨N,hN⟩:∃N,jt s 16=N:=⟨_,rfl⟩
 have hl16:N.length=16:=by rw [<-hN];unfold jt;rw [List.length_take,je];omega
 rw [hN]
 have HD:=iH (Qm 16 (by omega) (by omega) _ s w (hK w iB) h6.loB (by omega))
 rw [hN]at HD
 obtain⟨H,hH⟩:∃H,qr X.kd X.sec N=(0,H):=⟨_,by unfold qr;rw [iF (by rw [hp];simp),iF (by omega)]⟩
 have HH:Hid (∀(A:Option Addr) (c:Nat) (W:World),KD W->Bs W W.heap.size (.slice sA X.sec.length sc) X.sec->Bs W W.heap.size (.slice A 16 c) N->Calls Tryz.prog 18 #[.agg #[.int .i64 X.kd,.slice sA X.sec.length sc],.slice A 16 c] W (EB (0,H) W)):=iH (fun A c W k a b=>by
  have h:=j2j X.kd X.sec sA sc N A c W k a (by rw [hl16];exact b)
  rw [hl16,hH]at h
  exact h)
 rw [hH]
 have HL16:=iH hl16
 clear hN hH hp hl16
 have HP0:Hid (PtW P w w (exX X sA nA aA bA sc nc ac bc)):=iH (PtW.start hr)
 have HK:=iH hK;have Gs0:=iH h1;have Gn0:=iH h2;have Ga0:=iH h3;have Gb0:=iH h4;have Gv0:=iH h5;have Ge0:=iH h6;have HL:=iH hl
 have f:=j4 hr
 clear hK hr h1 h2 h3 h4 h5 h6 hl
 go_enter Tryz.func71,Tryz.ntmps71
 go_upto_region 2 with (go_at_call 125;refine HD.out.mono ?_;rintro e w1 ⟨A1,c1,B1,d1,rfl,ha,hb,hbw⟩;have GN1:=iH (ha.madeB HP0.out.lt);have GX1:=iH (hb.madeB HP0.out.lt);have Gs1:=iH (Gs0.out.onB hbw);have Gn1:=iH (Gn0.out.onB hbw);have Ga1:=iH (Ga0.out.onB hbw);have Gb1:=iH (Gb0.out.onB hbw);have Gv1:=iH (Gv0.out.onB hbw);have Ge1:=iH (Ge0.out.onB hbw);have hp:=HP0.out.call hbw;have HP1:=iH hp;obtain⟨g0,g1,g2,g3,g4,g5,g6,g7,g8,g9,g10,g11,gf⟩:=j4 hp.1;clear hp f;clear ha hb hbw)
 have gx:=gf 4
 clear gf
 go_upto_region 3 with fail
 obtain⟨w2,hw⟩:∃z,z=w1.setCell ⟨P,4,none⟩ (.slice A1 16 c1):=⟨_,rfl⟩
 rw [<-hw]
 have hp:PtW P w w2 #[.int .i64 X.kd,.slice sA X.sec.length sc,.int .i64 X.pr,.int .i64 X.st,.slice A1 16 c1,.int .i64 X.x,.int .i64 X.g,.int .i64 X.own,.int .i64 X.oth,.slice aA X.k1.length ac,.slice bA X.k2.length bc,.int .i64 X.ct]:=by rw [hw];exact HP1.out.set 4 _
 have Gs2:Hid (BsS w2 (j9 P w2) _ _):=iH (by rw [hw];exact BsS.setP Gs1.out 4 _)
 have Gn2:Hid (BsS w2 (j9 P w2) _ _):=iH (by rw [hw];exact BsS.setP Gn1.out 4 _)
 have Ga2:Hid (BsS w2 (j9 P w2) _ _):=iH (by rw [hw];exact BsS.setP Ga1.out 4 _)
 have Gb2:Hid (BsS w2 (j9 P w2) _ _):=iH (by rw [hw];exact BsS.setP Gb1.out 4 _)
 have Gv2:Hid (BsS w2 (j9 P w2) _ _):=iH (by rw [hw];exact BsS.setP Gv1.out 4 _)
 have Ge2:Hid (BsS w2 (j9 P w2) _ _):=iH (by rw [hw];exact BsS.setP Ge1.out 4 _)
 have GN2:Hid (BsS w2 (j9 P w2) _ _):=iH (by rw [hw];exact BsS.setP GN1.out 4 _)
 have GX2:Hid (BsS w2 (j9 P w2) _ _):=iH (by rw [hw];exact BsS.setP GX1.out 4 _)
 have HP2:=iH hp
 have f:=j4 hp.1
 clear hw hp g0 g1 g2 g3 g4 g5 g6 g7 g8 g9 g10 g11 gx
 go_wp2_with(go_at_call 18;refine(HH.out A1 c1 w2 (HK.out w2 HP2.out.2.2) Gs2.out.loB GN2.out.loB).mono ?_;rintro e w3 ⟨v3,rfl,hs,hb⟩;obtain⟨A3,c3,hv3⟩:=Bs.formL hs;subst hv3;have GH:=iH (hs.madeB HP2.out.lt);have Gs3:=iH (Gs2.out.onB hb);have Gn3:=iH (Gn2.out.onB hb);have Ga3:=iH (Ga2.out.onB hb);have Gb3:=iH (Gb2.out.onB hb);have Gv3:=iH (Gv2.out.onB hb);have Ge3:=iH (Ge2.out.onB hb);have GN3:=iH (GN2.out.onB hb);have GX3:=iH (GX2.out.onB hb);have hp:=HP2.out.call hb;have HP3:=iH hp;obtain⟨g0,g1,g2,g3,g4,g5,g6,g7,g8,g9,g10,g11,gf⟩:=j4 hp.1;clear hp f;clear hs hb)
 refine bodyPost_ret (v:=.tuple #[.int .i64 128,.slice A3 H.length c3,.slice B1 32 d1,.int .i64 0]) (by simp [results,Tryz.results71,go_sem]) rfl ?_
 have q3:=HP3.out
 rw [<-HL16.out]at q3
 have n3:BsS w3 (j9 P w3) (.slice A1 N.length c1) N:=by rw [HL16.out];exact GN3.out
 have hx:(sdW s).length=32:=je _
 have x3:BsS w3 (j9 P w3) (.slice B1 (sdW s).length d1) (sdW s):=by rw [hx];exact GX3.out
 exact⟨_,_,B1,d1,by rw [hx],⟨_,_,_,_,_,_,_,_,q3,Gs3.out,n3,Ga3.out,Gb3.out⟩,GH.out,x3⟩
end
theorem kW(x:Int)(h:jk x=true)(w:World):Calls Tryz.prog 129 #[.int .i64 x] w fun e w'=>∃A c,e=.returned (.slice A 4 c)/\BsS w' (New w w') (.slice A 4 c) (jd x)/\Below w.heap.size w w':=by
 have H:=iH (Xy x h w)
 clear h
 go_enter Tryz.func129,Tryz.ntmps129
 go_wp2_with(go_at_call 162;refine H.out.mono ?_;rintro e w1 ⟨v1,rfl,ho,hb⟩;obtain⟨A1,c1,hv1⟩:=ho.form;have hv1:v1=.slice A1 4 c1:=hv1;subst hv1;have HS:=iH (OwnB.out ho (by simp [jd]) w iL);have HB:=iH hb;clear ho hb)
 go_ret
 exact⟨_,_,rfl,HS.out,HB.out⟩
theorem UX(t:Int)(v:Value)(l:List UInt8)(w:World)(hv:Bs w w.heap.size v l):Calls Tryz.prog 138 #[.int .i64 t,v] w fun e w'=>∃A c,e=.returned (.agg #[.int .i64 t,.slice A l.length c,.slice none 0 0])/\BsS w' (New w w') (.slice A l.length c) l/\Below w.heap.size w w':=by
 have hlen:=hv.len
 obtain⟨A1,n1,d1,rfl⟩:=hv.form
 obtain rfl:=Bs.lenEq hv
 obtain⟨w0,hw0⟩:∃w0,w0=w.alloc (.cells #[.int .i64 0,.slice none 0 0,.slice none 0 0] 66):=⟨_,rfl⟩
 have hB0:Below w.heap.size w w0:=by rw [hw0];exact iA
 have hh0:w0.heap[w.heap.size]?=some (.cells #[.int .i64 0,.slice none 0 0,.slice none 0 0] 66 (0,0)):=by rw [hw0];exact iN
 have hlt0:=(iG hh0)
 have HV:=iH (hv.lift hB0);have HB:=iH hB0;have HW0:=iH hw0;have HR:=iH hh0;have HL:=iH hlen
 have HZ:Hid (w0.heap.size=w.heap.size+1):=iH (by rw [hw0];simp)
 clear hv hB0 hw0 hh0 hlt0 hlen
 go_enter Tryz.func138,Tryz.ntmps138
 go_upto_region 1 with fail
 rw [<-HW0.out]
 go_wp2_with(at_builtin;(with_reducible refine j5 rfl (.const (.slice none 0 0)) (.tmp 6) rfl w0.heap.size (.slice none 0 0) [] rfl (OwnB.nil _ _) A1 l.length d1 l (·<w0.heap.size) rfl HV.out (by have:=HL.out;simp;omega) iL ?_);intro v1 w1 hgr;rw [List.nil_append]at hgr;obtain⟨A2,c2,hv1⟩:=hgr.1.form;subst hv1;have HO:=iH hgr.1;have HB1:=iH hgr.2.1;have hr1:=(hgr.2.1.block w.heap.size (by have:=HZ.out;omega)).trans HR.out;have HR1:=iH hr1;obtain⟨z0,z1,z2,zf⟩:=xt hr1;have zf0:=zf 0;have zf1:=zf 1;have zf2:=zf 2;obtain⟨y0,y1,y2,_⟩:=xt (zi (.int .i64 t) (.slice A2 l.length c2) (.slice none 0 0) hr1);clear zf hr1 hgr)
 refine bodyPost_ret (v:=.agg #[.int .i64 t,.slice A2 l.length c2,.slice none 0 0]) (by simp only [QS]at y0 y1 y2;simp [results,Tryz.results138,go_sem,y0,y1,y2]) rfl ?_
 have hz:=HZ.out
 have ho:=HO.out.out HL.out w0 iL
 exact⟨A2,c2,rfl,ho.keep fun g hg hl=>⟨qZ (by have:=hg.1;omega),by have:=hg.1;omega,by simpa [QS]using hg.2⟩,qm (HB.out.trans (HB1.out.mono HB.out.size)) iL⟩
theorem J7(w:World)(o:Obj){g:Nat}(hg:g=w.heap.size):(w.alloc o).heap[g]?=some o:=by subst hg;exact iN
theorem Jr(w:World)(o:Obj){g:Nat}{x:Obj}(h:w.heap[g]?=some x):(w.alloc o).heap[g]?=some x:=(Below.heap_alloc _ _ _ (iG h)).trans h
theorem Zf(w:World):NsS ((w.alloc (.cells #[.int .i64 124,.slice none 0 0,.slice none 0 0] 66)).alloc (.cells #[.int .i64 124,.slice none 0 0,.slice none 0 0] 66)) (·<((w.alloc (.cells #[.int .i64 124,.slice none 0 0,.slice none 0 0] 66)).alloc (.cells #[.int .i64 124,.slice none 0 0,.slice none 0 0] 66)).heap.size) (.slice (some ⟨w.heap.size+1,0,none⟩) 1 1) (kR 0 []):=by
 unfold kR
 rw [iT rfl]
 exact NsS.one (g:=w.heap.size+1) (J7 _ _ (by simp)) (by simp) ⟨by omega,by omega⟩ (k8 _ _) (NsS.nil0 _ _)
theorem U5(w W:World)(t:Int)(ht:128<=t/\t<=134)(A:Option Addr)(c:Nat)(v:List UInt8)(g k:Nat)(h1:W.heap[g]?=some (.cells #[.int .i64 124,.slice none 0 0,.slice (some ⟨k,0,none⟩) 1 1] 66 (0,0)))(h2:W.heap[k]?=some (.cells #[.int .i64 t,.slice A v.length c,.slice none 0 0] 66 (0,0)))(hv:Bs W W.heap.size (.slice A v.length c) v):NsS W (·<W.heap.size) (.slice (some ⟨g,0,none⟩) 1 1) (kR t v):=by
 unfold kR
 rw [iF (by omega)]
 exact NsS.one h1 (iG h1) ⟨by omega,by omega⟩ (k8 _ _) (NsS.one h2 (iG h2) ⟨by omega,by omega⟩ hv (NsS.nil0 _ _))
theorem Jl(t:Int)(v:List UInt8):(kR t v).all<=2:=by unfold kR;split<;>simp [Ns.all]
theorem YY(t:Int):(ki t).length<=2:=by unfold ki;split<;>simp
theorem VV(n:Nat):(qL n).length<=9:=by
 have h:∀f n,(leN f n).length<=f:=by
  intro f
  induction f with
  |zero=>intro n;exact Nat.le_refl _
  |succ f ih=>intro n;unfold leN;split
              ·simp
              ·have:=ih (n / 256);simp;omega
 unfold qL
 split
 ·simp
 ·have:=h 8 n;simp;omega
theorem X6(t:Int)(v:List UInt8)(hv:v.length<=64):(kR t v).enc.length<=1000:=by
 have h1:=YY 124
 have h2:=YY t
 have h3:=VV
 have e0:∀K:Ns,(Ns.cons 124 [] K .nil).enc=ki 124++qL K.enc.length++K.enc:=by
  intro K
  have c124:kr 124=true:=by decide
  simp [Ns.enc,c124]
 have hin:(Ns.cons t v .nil .nil).enc.length<=100:=by
  have hq:(if kr t=true then([]:List UInt8)else v).length<=64:=by
   split
   ·exact Nat.zero_le _
   ·exact hv
  have:=h3 (if kr t=true then([]:List UInt8)else v).length
  simp only [Ns.enc,List.length_append,List.length_nil]
  omega
 unfold kR
 split
 ·rw [e0]
  have:=h3 (Ns.nil).enc.length
  simp only [Ns.enc,List.length_append,List.length_nil]at this |-
  omega
 ·rw [e0]
  have:=h3 (Ns.cons t v .nil .nil).enc.length
  simp only [List.length_append]
  omega
def Q6(b:List UInt8)(w:World)(e:Ending)(w':World):Prop:=∃A c,e=.returned (.slice A b.length c)/\BsS w' (New w w') (.slice A b.length c) b/\Below w.heap.size w w'
theorem yI(w:World)(a b:Obj):Below w.heap.size w ((w.alloc a).alloc b):=(iA).alloc (by simp) _
theorem Yp(w:World)(a b c:Obj):Below w.heap.size w (((w.alloc a).alloc b).alloc c):=(yI w a b).alloc (by simp;omega) _
theorem Kc(v:Value)(w:World):Calls Tryz.prog 75 #[.int .i64 (-1),v] w (Q6 (jB 0 []) w):=by
 have HU:=iH (X6 0 [] (by simp))
 go_enter Tryz.func75,Tryz.ntmps75
 go_wp2_with(go_at_call 134;refine(Kz (kR 0 []) _ ((w.alloc (.cells #[.int .i64 124,.slice none 0 0,.slice none 0 0] 66)).alloc (.cells #[.int .i64 124,.slice none 0 0,.slice none 0 0] 66)) (Zf w) (by have:=Jl 0 [];omega) (by have:=HU.out;omega)).mono ?_;rintro e w1 ⟨v1,rfl,hs,hb⟩;obtain⟨A1,c1,hp⟩:=Bs.formL hs;subst hp;have HS:=iH hs;have HB:=iH hb;clear hs hb)
 go_ret
 exact⟨_,_,rfl,HS.out.keep fun g hg _=>⟨rfl,Nat.le_trans (yI w _ _).size hg.1,hg.2⟩,(yI w _ _).trans (HB.out.mono (yI w _ _).size)⟩
theorem zk(t:Int)(ht:128<=t/\t<=134)(A:Option Addr)(c:Nat)(v:List UInt8)(w:World)(hv:Bs w w.heap.size (.slice A v.length c) v)(hl:v.length<=64):Calls Tryz.prog 75 #[.int .i64 t,.slice A v.length c] w (Q6 (jB t v) w):=by
 have HU:=iH (X6 t v hl)
 have HT:=iH ht;have HV:=iH hv
 have t1:(t != -1)=true:=by simp;omega
 clear ht hv hl
 go_enter Tryz.func75,Tryz.ntmps75
 go_wp2_with(go_at_call 134;refine(Kz (kR t v) _ (((w.alloc (.cells #[.int .i64 124,.slice none 0 0,.slice (some ⟨w.heap.size+1,0,none⟩) 1 1] 66)).alloc (.cells #[.int .i64 t,.slice A v.length c,.slice none 0 0] 66)).alloc (.cells #[.int .i64 124,.slice none 0 0,.slice (some ⟨w.heap.size+1,0,none⟩) 1 1] 66)) (U5 w (((w.alloc (.cells #[.int .i64 124,.slice none 0 0,.slice (some ⟨w.heap.size+1,0,none⟩) 1 1] 66)).alloc (.cells #[.int .i64 t,.slice A v.length c,.slice none 0 0] 66)).alloc (.cells #[.int .i64 124,.slice none 0 0,.slice (some ⟨w.heap.size+1,0,none⟩) 1 1] 66)) t HT.out A c v (w.heap.size+1+1) (w.heap.size+1) (J7 _ _ (by simp)) (Jr _ _ (J7 _ _ (by simp))) (HV.out.lift (Yp w _ _ _))) (by have:=Jl t v;omega) (by have:=HU.out;omega)).mono ?_;rintro e w1 ⟨v1,rfl,hs,hb⟩;obtain⟨A1,c1,hp⟩:=Bs.formL hs;subst hp;have HS:=iH hs;have HB:=iH hb;clear hs hb)
 go_ret
 exact⟨_,_,rfl,HS.out.keep fun g hg _=>⟨rfl,Nat.le_trans (Yp w _ _ _).size hg.1,hg.2⟩,(Yp w _ _ _).trans (HB.out.mono (Yp w _ _ _).size)⟩
theorem YS(L:Ns)(o:Value)(w:World)(hO:NsS w (·<w.heap.size) o L)(ha:L.all<=100000000000):
 Calls Tryz.prog 139 #[o] w fun e w'=>∃v',e=.returned v'/\BsS w' (New w w') v' (bytesOf (yi L))/\Below w.heap.size w w':=by
 have HE:=iH (ZV L o w hO ha)
 clear hO
 go_enter Tryz.func139,Tryz.ntmps139
 go_wp2_with(go_at_call 168;refine HE.out.mono ?_;rintro e w1 ⟨v1,rfl,hs,hb⟩;have HS:=iH hs;have HB:=iH hb;clear hs hb)
 go_ret
 exact⟨_,rfl,HS.out,HB.out⟩
theorem j1f(v:Value)(w:World):Calls Tryz.prog 86 #[.int .i64 0,v] w (Q6 (jB 0 []) w):=by
 have HU:=iH (X6 0 [] (by simp))
 go_enter Tryz.func86,Tryz.ntmps86
 go_wp2_with(go_at_call 139;refine(YS (kR 0 []) _ ((w.alloc (.cells #[.int .i64 124,.slice none 0 0,.slice none 0 0] 66)).alloc (.cells #[.int .i64 124,.slice none 0 0,.slice none 0 0] 66)) (Zf w) (by have:=Jl 0 [];omega)).mono ?_;rintro e w1 ⟨v1,rfl,hs,hb⟩;obtain⟨A1,c1,hp⟩:=Bs.formL hs;subst hp;have HS:=iH hs;have HB:=iH hb;clear hs hb)
 go_ret
 exact⟨_,_,rfl,HS.out.keep fun g hg _=>⟨rfl,Nat.le_trans (yI w _ _).size hg.1,hg.2⟩,(yI w _ _).trans (HB.out.mono (yI w _ _).size)⟩
theorem U4(t:Int)(ht:128<=t/\t<=134)(A:Option Addr)(c:Nat)(v:List UInt8)(w:World)(hv:Bs w w.heap.size (.slice A v.length c) v):Calls Tryz.prog 86 #[.int .i64 t,.slice A v.length c] w (Q6 (jB t v) w):=by
 obtain⟨w0,hw0⟩:∃w0,w0=w.alloc (.cells #[.int .i64 124,.slice none 0 0,.slice none 0 0] 66):=⟨_,rfl⟩
 have hb0:Below w.heap.size w w0:=by rw [hw0];exact jo _ _
 have HV:=iH (hv.lift hb0)
 have HR:Hid (w0.heap[w.heap.size]?=some (.cells #[.int .i64 124,.slice none 0 0,.slice none 0 0] 66 (0,0))):=iH (by rw [hw0];exact iN)
 have HB0:=iH hb0;have HW0:=iH hw0;have HT:=iH ht
 have t1:(t != 0)=true:=by simp;omega
 clear ht hv hb0 hw0
 go_enter Tryz.func86,Tryz.ntmps86
 go_upto_region 2 with fail
 rw [<-HW0.out]
 go_upto_region 4 with (go_at_call 138;refine(UX t _ v w0 HV.out).mono ?_;rintro e w1 ⟨A1,c1,rfl,hs,hb⟩;have HS1:=iH hs;have HB1:=iH hb;have hr1:=(hb.block w.heap.size (lt_of_block HR.out)).trans HR.out;have hr2:=Jr w1 (.cells #[.int .i64 t,.slice A1 v.length c1,.slice none 0 0] 66) hr1;obtain⟨f0,f1,f2,ff⟩:=kt hr2;have ff2:=ff 2;have HR1:=iH hr2;clear hs hb hr1 hr2 ff)
 obtain⟨w2,hw2⟩:∃w2,w2=(w1.alloc (.cells #[.int .i64 t,.slice A1 v.length c1,.slice none 0 0] 66)).setCell ⟨w.heap.size,2,none⟩ (.slice (some ⟨w1.heap.size,0,none⟩) 1 1):=⟨_,rfl⟩
 rw [<-hw2]
 have HR2:Hid (w2.heap[w.heap.size]?=some (.cells #[.int .i64 124,.slice none 0 0,.slice (some ⟨w1.heap.size,0,none⟩) 1 1] 66 (0,0))):=iH (by rw [hw2];exact kD (o:=2) HR1.out)
 have hlt:w.heap.size<w1.heap.size:=iZ (lt_of_block HR.out) HB1.out.size
 have HK2:Hid (w2.heap[w1.heap.size]?=some (.cells #[.int .i64 t,.slice A1 v.length c1,.slice none 0 0] 66 (0,0))):=iH (by rw [hw2,iO (by show w1.heap.size≠w.heap.size;omega)];exact iN)
 have hz2:w2.heap.size=w1.heap.size+1:=by rw [hw2];simp [World.setCell]
 have hz0:w0.heap.size=w.heap.size+1:=by rw [HW0.out];simp
 have HS2:Hid (Bs w2 w2.heap.size (.slice A1 v.length c1) v):=iH (HS1.out.keep fun g hg hl=>⟨by rw [hw2,iO (by show g≠w.heap.size;have:=hg.1;omega)];exact Below.heap_alloc _ _ _ hl,by omega⟩)
 have HB2:Hid (Below w.heap.size w w2):=iH (by rw [hw2];exact((HB0.out.trans (HB1.out.mono HB0.out.size)).alloc (Nat.le_of_lt hlt) _).setCell iL _)
 obtain⟨p0,p1,p2,_⟩:=kt HR2.out
 have hbw:=Below.alloc (Below.refl w2.heap.size w2) iL (.cells #[.int .i64 124,.slice none 0 0,.slice (some ⟨w1.heap.size,0,none⟩) 1 1] 66)
 have HW:=iH (U5 w2 (w2.alloc (.cells #[.int .i64 124,.slice none 0 0,.slice (some ⟨w1.heap.size,0,none⟩) 1 1] 66)) t HT.out A1 c1 v w2.heap.size w1.heap.size (J7 _ _ rfl) (Jr _ _ HK2.out) (HS2.out.lift hbw))
 have HBW:=iH hbw
 clear f0 f1 f2 ff2 hw2 hlt hz2 hz0 hbw
 go_wp2_with(go_at_call 139;refine(YS (kR t v) _ _ HW.out (by have:=Jl t v;omega)).mono ?_;rintro e w3 ⟨v1,rfl,hs,hb⟩;obtain⟨A3,c3,hp⟩:=Bs.formL hs;subst hp;have HS:=iH hs;have HB:=iH hb;clear hs hb)
 go_ret
 have hq:=HB2.out.trans (HBW.out.mono HB2.out.size)
 exact⟨_,_,rfl,HS.out.keep fun g hg _=>⟨rfl,Nat.le_trans hq.size hg.1,hg.2⟩,hq.trans (HB.out.mono hq.size)⟩
theorem Z5(t tag z:Int)(A A':Option Addr)(n c m c':Nat)(w:World)(o:Bool)(hz:0<=z)(ho:decide (t=tag/\m=0/\(n:Int)=z)=o):
 Calls Tryz.prog 135 #[.agg #[.int .i64 t,.slice A n c,.slice A' m c'],.int .i64 tag,.int .i64 z] w fun e w'=>e=.returned (.bool o)/\Below w.heap.size w w':=by
 have HB:Hid (Below w.heap.size w (w.alloc (.cells #[.int .i64 t,.slice A n c,.slice A' m c'] 66))):=iH (iA)
 have HO:=iH ho
 have hz':decide (z<0)=false:=decide_eq_false (by omega)
 clear ho
 by_cases h1:t=tag
 ·by_cases h2:m=0
  ·by_cases h3:(n:Int)=z
   ·have hob:o=true:=by rw [<-HO.out];exact decide_eq_true ⟨h1,h2,h3⟩
    subst h1 h2 h3
    clear HO
    go_enter Tryz.func135,Tryz.ntmps135
    go_wp2_with fail
    go_ret
    exact⟨by rw [hob]<;>rfl,HB.out⟩
   ·have hob:o=false:=by rw [<-HO.out];exact decide_eq_false (fun h=>h3 h.2.2)
    have h3':((n:Int)==z)=false:=by simp [h3]
    subst h1 h2
    clear HO h3
    go_enter Tryz.func135,Tryz.ntmps135
    go_wp2_with fail
    go_ret
    exact⟨by rw [hob]<;>rfl,HB.out⟩
  ·have hob:o=false:=by rw [<-HO.out];exact decide_eq_false (fun h=>h2 h.2.1)
   have h2':((m:Int)==0)=false:=by simp [h2]
   subst h1
   clear HO h2
   go_enter Tryz.func135,Tryz.ntmps135
   go_wp2_with fail
   go_ret
   exact⟨by rw [hob]<;>rfl,HB.out⟩
 ·have hob:o=false:=by rw [<-HO.out];exact decide_eq_false (fun h=>h1 h.1)
  have h1':((t:Int)==tag)=false:=by simp [h1]
  clear HO h1
  go_enter Tryz.func135,Tryz.ntmps135
  go_wp2_with fail
  go_ret
  exact⟨by rw [hob]<;>rfl,HB.out⟩
theorem j82{b:List UInt8}{l:Ns}(h:kl b true=.ok l):l.chk 1=0:=by
 have:=(Zb h).1
 unfold yi at this
 split at this
 ·cases this
 ·rename_i h1
  exact Decidable.not_not.1 h1
theorem ns1{w:World}{S:Nat->Prop}{v:Value}{t:Int}{vv:List UInt8}{K:Ns}(h:NsS w S v (.cons t vv K .nil)):∃lb lo c ka kc xA xc,v=.slice (some ⟨lb,lo,none⟩) 1 c/\w.cell? ⟨lb,lo,none⟩=some (.int .i64 t)/\w.cell? ⟨lb,lo+1,none⟩=some (.slice xA vv.length xc)/\w.cell? ⟨lb,lo+2,none⟩=some (.slice ka K.len kc)/\BsS w S (.slice xA vv.length xc) vv/\NsS w S (.slice ka K.len kc) K:=by
 obtain⟨a,c,rfl,h1,h2,h3,h4⟩:=h
 obtain⟨lb,lo,rfl,hb,hlt,g0,gi,⟨x,g1,hx⟩,⟨ka,kc,g2,k1,k2,k3,k4⟩,_⟩:=h4 (by simp [Ns.len])
 obtain⟨xA,xc,rfl⟩:=Bs.formL hx
 refine⟨lb,lo,c,ka,kc,xA,xc,rfl,g0,g1,g2,hx,ka,kc,rfl,k1,k2,k3,fun hp=> ?_⟩
 obtain⟨b',o',e,q1,q2,q3⟩:=k4 hp
 exact⟨b',o',e,q1,q2,q3⟩
theorem KG{l:Ns}(h:l.len=1):∃t vv K,l=.cons t vv K .nil:=by
 cases l with
 |nil=>simp [Ns.len]at h
 |cons t vv K r=>cases r with
  |nil=>exact⟨_,_,_,rfl⟩
  |cons a b c d=>simp only [Ns.len]at h;omega
theorem Jm{tag:Int}{z:Nat}{l:Ns}(h:¬l.len=1):K9 tag z l=none:=by
 unfold K9
 split
 ·exact absurd rfl h
 ·rfl
theorem j1h{tag:Int}{z:Nat}{vv:List UInt8}{K:Ns}(h0:¬tag=0)(h:¬K.len=1):K9 tag z (.cons 124 vv K .nil)=none:=by
 simp only [K9,iF h0,iF (show ¬¬(124:Int)=124 by simp)]
 rcases K with _|⟨u,v,k,r⟩
 ·rfl
 ·rcases r with _|⟨_,_,_,_⟩
  ·exact absurd rfl h
  ·rfl
def ValOut(r:Option (List UInt8))(w:World)(e:Ending)(w':World):Prop:=∃v',e=.returned (.tuple #[v',.bool r.isSome])/\BsS w' (New w w') v' (r.getD [])/\Below w.heap.size w w'
theorem ValOut.no0{w w':World}{r:Option (List UInt8)}(hr:r=.none)(hb:Below w.heap.size w w'):ValOut r w (.returned (.tuple #[.slice none 0 0,.bool false])) w':=by
 subst hr
 exact⟨_,rfl,⟨Option.none,0,rfl,by simp,by omega,by simp,fun h=>by simp at h⟩,hb⟩
theorem ValOut.nil0{w w':World}{r:Option (List UInt8)}(hr:r=some [])(hb:Below w.heap.size w w'):ValOut r w (.returned (.tuple #[.slice none 0 0,.bool true])) w':=by
 subst hr
 exact⟨_,rfl,⟨Option.none,0,rfl,by simp,by omega,by simp,fun h=>by simp at h⟩,hb⟩
theorem Zt{w w':World}{b o:Nat}{x:Value}(h:w.cell? ⟨b,o,none⟩=some x)(hb:Below w.heap.size w w'):w'.cell? ⟨b,o,none⟩=some x:=by
 have hl:b<w.heap.size:=by
  rcases Nat.lt_or_ge b w.heap.size with h'|h'
  ·exact h'
  ·simp [World.cell?,Array.getElem?_eq_none h']at h
 exact(World.cell?_of_block (w:=w) (a:=⟨b,o,none⟩) (hb.block b hl)).trans h
theorem Yk(z:Nat)(B:List UInt8)(v:Value)(w:World)(hv:Bs w w.heap.size v B):
 Calls Tryz.prog 69 #[v,.int .i64 (-1),.int .i64 z] w (ValOut (kB B 0 z) w):=by
 have HP:=iH (XU B v true w hv)
 obtain⟨A,c,rfl⟩:=Bs.formL hv
 clear hv
 cases hp:kl B true with
 |error er=>
  have R:Hid (kB B 0 z=.none):=iH (by unfold kB;rw [hp])
  have her:(er != 0)=true:=by have:=xj hp;simp [this]
  rw [hp]at HP
  clear hp
  go_enter Tryz.func69,Tryz.ntmps69
  go_wp2_with(go_at_call 124;refine HP.out.mono ?_;rintro e w1 h;obtain⟨a1,c1,rfl,hb⟩:=h.err;have HB:=iH hb;clear hb h)
  go_ret2
  exact ValOut.no0 R.out HB.out
 |ok l=>
  rw [hp]at HP
  by_cases h1:l.len=1
  ·obtain⟨t,vv,K,rfl⟩:=KG h1
   clear h1
   by_cases h124:t=124
   ·subst h124
    by_cases hk0:K.len=0
    ·have R:Hid (kB B 0 z=some []):=iH (by unfold kB;rw [hp];simp [K9,hk0])
     clear hp
     go_enter Tryz.func69,Tryz.ntmps69
     go_upto_region 2 with (go_at_call 124;refine HP.out.mono ?_;rintro e w1 h;obtain⟨a1,c1,rfl,hs,hb⟩:=h.got;obtain⟨lb,lo,c2,ka,kc,xA,xc,hv1,g0,g1,g2,hx,hk⟩:=ns1 hs;injection hv1 with e1 e2 e3;subst e1;clear e2 e3 h;have HK:=iH hk;have HB:=iH hb;clear hs hb hx hk)
     rw [hk0]at g2
     clear g1
     go_wp2_with fail
     go_ret2
     exact ValOut.nil0 R.out HB.out
    ·have R:Hid (kB B 0 z=.none):=iH (by unfold kB;rw [hp];simp [K9,hk0])
     have t1:((K.len:Int)==0)=false:=by simp;omega
     clear hp hk0
     go_enter Tryz.func69,Tryz.ntmps69
     go_upto_region 2 with (go_at_call 124;refine HP.out.mono ?_;rintro e w1 h;obtain⟨a1,c1,rfl,hs,hb⟩:=h.got;obtain⟨lb,lo,c2,ka,kc,xA,xc,hv1,g0,g1,g2,hx,hk⟩:=ns1 hs;injection hv1 with e1 e2 e3;subst e1;clear e2 e3 h;have HK:=iH hk;have HB:=iH hb;clear hs hb hx hk)
     clear g1
     go_wp2_with fail
     go_ret2
     exact ValOut.no0 R.out HB.out
   ·have R:Hid (kB B 0 z=.none):=iH (by unfold kB;rw [hp];simp [K9,h124])
    have t1:(t != 124)=true:=by simp [h124]
    clear hp h124
    go_enter Tryz.func69,Tryz.ntmps69
    go_upto_region 2 with (go_at_call 124;refine HP.out.mono ?_;rintro e w1 h;obtain⟨a1,c1,rfl,hs,hb⟩:=h.got;obtain⟨lb,lo,c2,ka,kc,xA,xc,hv1,g0,g1,g2,hx,hk⟩:=ns1 hs;injection hv1 with e1 e2 e3;subst e1;clear e2 e3 h;have HK:=iH hk;have HB:=iH hb;clear hs hb hx hk)
    clear g1 g2
    go_wp2_with fail
    go_ret2
    exact ValOut.no0 R.out HB.out
  ·have R:Hid (kB B 0 z=.none):=iH (by unfold kB;rw [hp];exact Jm h1)
   have t1:((l.len:Int) != 1)=true:=by simp;omega
   clear hp h1
   go_enter Tryz.func69,Tryz.ntmps69
   go_wp2_with(go_at_call 124;refine HP.out.mono ?_;rintro e w1 h;obtain⟨a1,c1,rfl,_,hb⟩:=h.got;have HB:=iH hb;clear hb h)
   go_ret2
   exact ValOut.no0 R.out HB.out
theorem Q0(tag:Int)(ht:128<=tag/\tag<=134)(z:Nat)(B:List UInt8)(v:Value)(w:World)(hv:Bs w w.heap.size v B):
 Calls Tryz.prog 69 #[v,.int .i64 tag,.int .i64 z] w (ValOut (kB B tag z) w):=by
 have HP:=iH (XU B v true w hv)
 obtain⟨A,c,rfl⟩:=Bs.formL hv
 clear hv
 have hm1:(tag== -1)=false:=by simp;omega
 have hz0:(tag==0)=false:=by simp;omega
 have h0:¬tag=0:=by omega
 cases hp:kl B true with
 |error er=>
  have R:Hid (kB B tag z=.none):=iH (by unfold kB;rw [hp])
  have her:(er != 0)=true:=by have:=xj hp;simp [this]
  rw [hp]at HP
  clear hp
  go_enter Tryz.func69,Tryz.ntmps69
  go_wp2_with(go_at_call 124;refine HP.out.mono ?_;rintro e w1 h;obtain⟨a1,c1,rfl,hb⟩:=h.err;have HB:=iH hb;clear hb h)
  go_ret2
  exact ValOut.no0 R.out HB.out
 |ok l=>
  rw [hp]at HP
  by_cases h1:l.len=1
  ·obtain⟨t,vv,K,rfl⟩:=KG h1
   clear h1
   by_cases h124:t=124
   ·subst h124
    by_cases hk1:K.len=1
    ·obtain⟨u,v2,k2,rfl⟩:=KG hk1
     clear hk1
     have hch:=j82 hp
     have hk2:u=tag->k2.len=0:=by
      intro e
      have hc:kr tag=false:=by
       have:tag=128\/tag=129\/tag=130\/tag=131\/tag=132\/tag=133\/tag=134:=by omega
       rcases this with rfl|rfl|rfl|rfl|rfl|rfl|rfl<;>decide
      rw [(zM (zM hch).2.2.2.2.1).2.1 (by rw [e];exact hc)]
      rfl
     by_cases hu:u=tag
     ·by_cases hl:v2.length=z
      ·have R:Hid (kB B tag z=some v2):=iH (by unfold kB;rw [hp];simp [K9,h0,hu,hl])
       have t1:(u != tag)=false:=by simp [hu]
       have t2:((v2.length:Int) != z)=false:=by simp [hl]
       clear hp hu hl hch hk2
       go_enter Tryz.func69,Tryz.ntmps69
       go_upto_region 2 with (go_at_call 124;refine HP.out.mono ?_;rintro e w1 h;obtain⟨a1,c1,rfl,hs,hb⟩:=h.got;obtain⟨lb,lo,c2,ka,kc,xA,xc,hv1,g0,g1,g2,hx,hk⟩:=ns1 hs;injection hv1 with e1 e2 e3;subst e1;clear e2 e3 h;have HK:=iH hk;have HB:=iH hb;clear hs hb hx hk)
       obtain⟨kb,ko,c2,kA,kc2,yA,yc,hv2,q0,q1,q2,hy,_⟩:=ns1 HK.out
       injection hv2 with e1 e2 e3
       subst e1
       have HY:=iH hy
       clear e2 e3 hy g1 q2
       go_wp2_with fail
       go_ret2
       exact⟨_,by rw [R.out]<;>rfl,by rw [R.out];exact HY.out,HB.out⟩
      ·have R:Hid (kB B tag z=.none):=iH (by unfold kB;rw [hp];simp [K9,h0,hl])
       have t1:(u != tag)=false:=by simp [hu]
       have t2:((v2.length:Int) != z)=true:=by simp;omega
       clear hp hu hl hch hk2
       go_enter Tryz.func69,Tryz.ntmps69
       go_upto_region 2 with (go_at_call 124;refine HP.out.mono ?_;rintro e w1 h;obtain⟨a1,c1,rfl,hs,hb⟩:=h.got;obtain⟨lb,lo,c2,ka,kc,xA,xc,hv1,g0,g1,g2,hx,hk⟩:=ns1 hs;injection hv1 with e1 e2 e3;subst e1;clear e2 e3 h;have HK:=iH hk;have HB:=iH hb;clear hs hb hx hk)
       obtain⟨kb,ko,c2,kA,kc2,yA,yc,hv2,q0,q1,q2,hy,_⟩:=ns1 HK.out
       injection hv2 with e1 e2 e3
       subst e1
       clear e2 e3 hy g1 q2
       go_wp2_with fail
       go_ret2
       exact ValOut.no0 R.out HB.out
     ·have R:Hid (kB B tag z=.none):=iH (by unfold kB;rw [hp];simp [K9,h0,hu])
      have t1:(u != tag)=true:=by simp [hu]
      clear hp hu hch hk2
      go_enter Tryz.func69,Tryz.ntmps69
      go_upto_region 2 with (go_at_call 124;refine HP.out.mono ?_;rintro e w1 h;obtain⟨a1,c1,rfl,hs,hb⟩:=h.got;obtain⟨lb,lo,c2,ka,kc,xA,xc,hv1,g0,g1,g2,hx,hk⟩:=ns1 hs;injection hv1 with e1 e2 e3;subst e1;clear e2 e3 h;have HK:=iH hk;have HB:=iH hb;clear hs hb hx hk)
      obtain⟨kb,ko,c2,kA,kc2,yA,yc,hv2,q0,q1,q2,hy,_⟩:=ns1 HK.out
      injection hv2 with e1 e2 e3
      subst e1
      clear e2 e3 hy g1 q2 q1
      go_wp2_with fail
      go_ret2
      exact ValOut.no0 R.out HB.out
    ·have R:Hid (kB B tag z=.none):=iH (by
      unfold kB
      rw [hp]
      exact j1h h0 hk1)
     have t1:((K.len:Int) != 1)=true:=by simp;omega
     clear hp hk1
     go_enter Tryz.func69,Tryz.ntmps69
     go_upto_region 2 with (go_at_call 124;refine HP.out.mono ?_;rintro e w1 h;obtain⟨a1,c1,rfl,hs,hb⟩:=h.got;obtain⟨lb,lo,c2,ka,kc,xA,xc,hv1,g0,g1,g2,hx,hk⟩:=ns1 hs;injection hv1 with e1 e2 e3;subst e1;clear e2 e3 h;have HK:=iH hk;have HB:=iH hb;clear hs hb hx hk)
     clear g1
     go_wp2_with fail
     go_ret2
     exact ValOut.no0 R.out HB.out
   ·have R:Hid (kB B tag z=.none):=iH (by unfold kB;rw [hp];simp [K9,h124])
    have t1:(t != 124)=true:=by simp [h124]
    clear hp h124
    go_enter Tryz.func69,Tryz.ntmps69
    go_upto_region 2 with (go_at_call 124;refine HP.out.mono ?_;rintro e w1 h;obtain⟨a1,c1,rfl,hs,hb⟩:=h.got;obtain⟨lb,lo,c2,ka,kc,xA,xc,hv1,g0,g1,g2,hx,hk⟩:=ns1 hs;injection hv1 with e1 e2 e3;subst e1;clear e2 e3 h;have HK:=iH hk;have HB:=iH hb;clear hs hb hx hk)
    clear g1 g2
    go_wp2_with fail
    go_ret2
    exact ValOut.no0 R.out HB.out
  ·have R:Hid (kB B tag z=.none):=iH (by unfold kB;rw [hp];exact Jm h1)
   have t1:((l.len:Int) != 1)=true:=by simp;omega
   clear hp h1
   go_enter Tryz.func69,Tryz.ntmps69
   go_wp2_with(go_at_call 124;refine HP.out.mono ?_;rintro e w1 h;obtain⟨a1,c1,rfl,_,hb⟩:=h.got;have HB:=iH hb;clear hb h)
   go_ret2
   exact ValOut.no0 R.out HB.out
theorem V5(z:Nat)(B:List UInt8)(v:Value)(w:World)(hv:Bs w w.heap.size v B):
 Calls Tryz.prog 78 #[v,.int .i64 0,.int .i64 z] w (ValOut (kB B 0 z) w):=by
 have HP:=iH (KS B v true w hv)
 obtain⟨A,c,rfl⟩:=Bs.formL hv
 clear hv
 cases hp:kl B true with
 |error er=>
  have R:Hid (kB B 0 z=.none):=iH (by unfold kB;rw [hp])
  have her:(er != 0)=true:=by have:=xj hp;simp [this]
  rw [hp]at HP
  clear hp
  go_enter Tryz.func78,Tryz.ntmps78
  go_wp2_with(go_at_call 41;refine HP.out.mono ?_;rintro e w1 h;obtain⟨a1,c1,rfl,hb⟩:=h.err;have HB:=iH hb;clear hb h)
  go_ret2
  exact ValOut.no0 R.out HB.out
 |ok l=>
  rw [hp]at HP
  by_cases h1:l.len=1
  ·obtain⟨t,vv,K,rfl⟩:=KG h1
   clear h1
   by_cases h124:t=124
   ·subst h124
    by_cases hk0:K.len=0
    ·have R:Hid (kB B 0 z=some []):=iH (by unfold kB;rw [hp];simp [K9,hk0])
     clear hp
     go_enter Tryz.func78,Tryz.ntmps78
     go_upto_region 2 with (go_at_call 41;refine HP.out.mono ?_;rintro e w1 h;obtain⟨a1,c1,rfl,hs,hb⟩:=h.got;obtain⟨lb,lo,c2,ka,kc,xA,xc,hv1,g0,g1,g2,hx,hk⟩:=ns1 hs;injection hv1 with e1 e2 e3;subst e1;clear e2 e3 h;have HK:=iH hk;have HB:=iH hb;clear hs hb hx hk)
     rw [hk0]at g2
     clear g1
     go_wp2_with fail
     go_quiet (fail)
     go_wp2_with fail
     go_ret2
     exact ValOut.nil0 R.out (j3 HB.out _)
    ·have R:Hid (kB B 0 z=.none):=iH (by unfold kB;rw [hp];simp [K9,hk0])
     have t1:((K.len:Int)==0)=false:=by simp;omega
     clear hp hk0
     go_enter Tryz.func78,Tryz.ntmps78
     go_upto_region 2 with (go_at_call 41;refine HP.out.mono ?_;rintro e w1 h;obtain⟨a1,c1,rfl,hs,hb⟩:=h.got;obtain⟨lb,lo,c2,ka,kc,xA,xc,hv1,g0,g1,g2,hx,hk⟩:=ns1 hs;injection hv1 with e1 e2 e3;subst e1;clear e2 e3 h;have HK:=iH hk;have HB:=iH hb;clear hs hb hx hk)
     clear g1
     go_wp2_with fail
     go_quiet (fail)
     go_wp2_with fail
     go_ret2
     exact ValOut.no0 R.out (j3 HB.out _)
   ·have R:Hid (kB B 0 z=.none):=iH (by unfold kB;rw [hp];simp [K9,h124])
    have t1:(t != 124)=true:=by simp [h124]
    clear hp h124
    go_enter Tryz.func78,Tryz.ntmps78
    go_upto_region 2 with (go_at_call 41;refine HP.out.mono ?_;rintro e w1 h;obtain⟨a1,c1,rfl,hs,hb⟩:=h.got;obtain⟨lb,lo,c2,ka,kc,xA,xc,hv1,g0,g1,g2,hx,hk⟩:=ns1 hs;injection hv1 with e1 e2 e3;subst e1;clear e2 e3 h;have HK:=iH hk;have HB:=iH hb;clear hs hb hx hk)
    clear g1 g2
    go_wp2_with fail
    go_ret2
    exact ValOut.no0 R.out HB.out
  ·have R:Hid (kB B 0 z=.none):=iH (by unfold kB;rw [hp];exact Jm h1)
   have t1:((l.len:Int) != 1)=true:=by simp;omega
   clear hp h1
   go_enter Tryz.func78,Tryz.ntmps78
   go_wp2_with(go_at_call 41;refine HP.out.mono ?_;rintro e w1 h;obtain⟨a1,c1,rfl,_,hb⟩:=h.got;have HB:=iH hb;clear hb h)
   go_ret2
   exact ValOut.no0 R.out HB.out
theorem Zj(tag:Int)(ht:128<=tag/\tag<=134)(z:Nat)(B:List UInt8)(v:Value)(w:World)(hv:Bs w w.heap.size v B):
 Calls Tryz.prog 78 #[v,.int .i64 tag,.int .i64 z] w (ValOut (kB B tag z) w):=by
 have HP:=iH (KS B v true w hv)
 obtain⟨A,c,rfl⟩:=Bs.formL hv
 clear hv
 have hm1:(tag== -1)=false:=by simp;omega
 have hz0:(tag==0)=false:=by simp;omega
 have h0:¬tag=0:=by omega
 cases hp:kl B true with
 |error er=>
  have R:Hid (kB B tag z=.none):=iH (by unfold kB;rw [hp])
  have her:(er != 0)=true:=by have:=xj hp;simp [this]
  rw [hp]at HP
  clear hp
  go_enter Tryz.func78,Tryz.ntmps78
  go_wp2_with(go_at_call 41;refine HP.out.mono ?_;rintro e w1 h;obtain⟨a1,c1,rfl,hb⟩:=h.err;have HB:=iH hb;clear hb h)
  go_ret2
  exact ValOut.no0 R.out HB.out
 |ok l=>
  rw [hp]at HP
  by_cases h1:l.len=1
  ·obtain⟨t,vv,K,rfl⟩:=KG h1
   clear h1
   by_cases h124:t=124
   ·subst h124
    by_cases hk1:K.len=1
    ·obtain⟨u,v2,k2,rfl⟩:=KG hk1
     clear hk1
     have hch:=j82 hp
     have hk2:u=tag->k2.len=0:=by
      intro e
      have hc:kr tag=false:=by
       have:tag=128\/tag=129\/tag=130\/tag=131\/tag=132\/tag=133\/tag=134:=by omega
       rcases this with rfl|rfl|rfl|rfl|rfl|rfl|rfl<;>decide
      rw [(zM (zM hch).2.2.2.2.1).2.1 (by rw [e];exact hc)]
      rfl
     obtain⟨o,ho⟩:∃o,decide (u=tag/\k2.len=0/\(v2.length:Int)=z)=o:=⟨_,rfl⟩
     have R:Hid (kB B tag z=if o=true then some v2 else .none):=iH (by
      unfold kB
      rw [hp]
      by_cases hu:u=tag/\v2.length=z
      ·have:o=true:=by rw [<-ho];exact decide_eq_true ⟨hu.1,hk2 hu.1,by omega⟩
       rw [this]
       simp [K9,h0,hu.1,hu.2]
      ·have:o=false:=by rw [<-ho];exact decide_eq_false (fun h=>hu ⟨h.1,by omega⟩)
       rw [this]
       simp only [K9,iF h0,iF hu]
       simp)
     have HO:=iH ho
     clear hp hch hk2 ho
     cases o
     ·go_enter Tryz.func78,Tryz.ntmps78
      go_upto_region 2 with (go_at_call 41;refine HP.out.mono ?_;rintro e w1 h;obtain⟨a1,c1,rfl,hs,hb⟩:=h.got;obtain⟨lb,lo,c2,ka,kc,xA,xc,hv1,g0,g1,g2,hx,hk⟩:=ns1 hs;injection hv1 with e1 e2 e3;subst e1;clear e2 e3 h;have HK:=iH hk;have HB:=iH hb;clear hs hb hx hk)
      obtain⟨kb,ko,c2,kA,kc2,yA,yc,hv2,q0,q1,q2,hy,_⟩:=ns1 HK.out
      injection hv2 with e1 e2 e3
      subst e1
      clear e2 e3 hy g1
      go_wp2_with(go_at_call 135;refine(Z5 u tag (z:Int) yA kA v2.length yc k2.len kc2 _ false (by omega) HO.out).mono ?_;rintro e w2 ⟨rfl,hb⟩;have HB3:=iH (HB.out.trans (hb.mono HB.out.size));clear hb)
      go_ret2
      exact ValOut.no0 (by rw [R.out]<;>rfl) HB3.out
     ·go_enter Tryz.func78,Tryz.ntmps78
      go_upto_region 2 with (go_at_call 41;refine HP.out.mono ?_;rintro e w1 h;obtain⟨a1,c1,rfl,hs,hb⟩:=h.got;obtain⟨lb,lo,c2,ka,kc,xA,xc,hv1,g0,g1,g2,hx,hk⟩:=ns1 hs;injection hv1 with e1 e2 e3;subst e1;clear e2 e3 h;have HK:=iH hk;have HB:=iH hb;clear hs hb hx hk)
      obtain⟨kb,ko,c2,kA,kc2,yA,yc,hv2,q0,q1,q2,hy,_⟩:=ns1 HK.out
      injection hv2 with e1 e2 e3
      subst e1
      have HY:=iH hy
      clear e2 e3 hy g1
      go_wp2_with(go_at_call 135;refine(Z5 u tag (z:Int) yA kA v2.length yc k2.len kc2 _ true (by omega) HO.out).mono ?_;rintro e w2 ⟨rfl,hb⟩;have HB3:=iH (HB.out.trans (hb.mono HB.out.size));have HY2:=iH (BsS.keep HY.out (w':=w2) (S':=New w w2) fun g hg hl=>⟨hb.block g hl,hg.1,iZ hl hb.size⟩);have l0:=Zt g0 hb;have l2:=Zt g2 hb;have m1:=Zt q1 hb;clear hb g0 g2 q0 q1 q2)
      go_ret2
      exact⟨_,by rw [R.out]<;>rfl,by rw [R.out];exact HY2.out,HB3.out⟩
    ·have R:Hid (kB B tag z=.none):=iH (by
      unfold kB
      rw [hp]
      exact j1h h0 hk1)
     have t1:((K.len:Int) != 1)=true:=by simp;omega
     clear hp hk1
     go_enter Tryz.func78,Tryz.ntmps78
     go_upto_region 2 with (go_at_call 41;refine HP.out.mono ?_;rintro e w1 h;obtain⟨a1,c1,rfl,hs,hb⟩:=h.got;obtain⟨lb,lo,c2,ka,kc,xA,xc,hv1,g0,g1,g2,hx,hk⟩:=ns1 hs;injection hv1 with e1 e2 e3;subst e1;clear e2 e3 h;have HK:=iH hk;have HB:=iH hb;clear hs hb hx hk)
     clear g1
     go_wp2_with fail
     go_ret2
     exact ValOut.no0 R.out HB.out
   ·have R:Hid (kB B tag z=.none):=iH (by unfold kB;rw [hp];simp [K9,h124])
    have t1:(t != 124)=true:=by simp [h124]
    clear hp h124
    go_enter Tryz.func78,Tryz.ntmps78
    go_upto_region 2 with (go_at_call 41;refine HP.out.mono ?_;rintro e w1 h;obtain⟨a1,c1,rfl,hs,hb⟩:=h.got;obtain⟨lb,lo,c2,ka,kc,xA,xc,hv1,g0,g1,g2,hx,hk⟩:=ns1 hs;injection hv1 with e1 e2 e3;subst e1;clear e2 e3 h;have HK:=iH hk;have HB:=iH hb;clear hs hb hx hk)
    clear g1 g2
    go_wp2_with fail
    go_ret2
    exact ValOut.no0 R.out HB.out
  ·have R:Hid (kB B tag z=.none):=iH (by unfold kB;rw [hp];exact Jm h1)
   have t1:((l.len:Int) != 1)=true:=by simp;omega
   clear hp h1
   go_enter Tryz.func78,Tryz.ntmps78
   go_wp2_with(go_at_call 41;refine HP.out.mono ?_;rintro e w1 h;obtain⟨a1,c1,rfl,_,hb⟩:=h.got;have HB:=iH hb;clear hb h)
   go_ret2
   exact ValOut.no0 R.out HB.out
theorem yn(X:Exg)(sA nA aA bA:Option Addr)(sc nc ac bc:Nat)(w:World)(h1:Bs w w.heap.size (.slice aA X.k1.length ac) X.k1)(h2:Bs w w.heap.size (.slice bA X.k2.length bc) X.k2)(l1:X.k1.length<=140737488351232)(l2:X.k2.length<=140737488351232):Calls Tryz.prog 68 #[.agg #[.int .i64 X.kd,.slice sA X.sec.length sc,.int .i64 X.pr,.int .i64 X.st,.slice nA X.non.length nc,.int .i64 X.x,.int .i64 X.g,.int .i64 X.own,.int .i64 X.oth,.slice aA X.k1.length ac,.slice bA X.k2.length bc,.int .i64 X.ct]] w fun e w'=>e=.returned (.bool (usC X))/\Below w.heap.size w w':=by
 obtain⟨w0,hw0⟩:∃w0,w0=w.alloc (.cells (exX X sA nA aA bA sc nc ac bc) 48):=⟨_,rfl⟩
 have HB0:Hid (Below w.heap.size w w0):=iH (by rw [hw0];exact jo _ _)
 have FR:Hid (∀W,Below w0.heap.size w0 W->W.heap[w.heap.size]?=some (.cells (exX X sA nA aA bA sc nc ac bc) 48 (0,0))):=iH (fun W h=>(h.block w.heap.size (by rw [hw0];simp)).trans (by rw [hw0];exact iN))
 have HW0:=iH hw0
 have HBG:=iH (Xh X sA nA aA bA sc nc ac bc w0)
 have HA:=iH (h1.lift HB0.out);have HB:=iH (h2.lift HB0.out);have HL:=iH (And.intro l1 l2)
 have f:=j4 (FR.out w0 iB)
 clear hw0 h1 h2 l1 l2
 have b1:Below w0.heap.size w0 w0:=Below.refl _ _
 clear b1
 rcases hb:kj X with _|_
 ·rw [hb]at HBG
  have R:=iH (show usC X=false by simp [usC,hb])
  clear hb
  go_enter Tryz.func68,Tryz.ntmps68
  go_upto_region 1 with fail
  rw [<-HW0.out]
  go_wp2_with(first
  |(go_at_call 122;refine HBG.out.mono ?_;rintro e w1 ⟨rfl,hb⟩;have HB1:=iH hb;have g:=j4 (FR.out w1 hb);clear hb))
  go_ret
  rw [R.out]
  exact⟨rfl,HB0.out.trans (HB1.out.mono HB0.out.size)⟩
 rw [hb]at HBG
 by_cases s1:X.st<1
 ·have s2:X.st<2:=by omega
  have s3:X.st<3:=by omega
  have R:=iH (show usC X=true by simp [usC,hb,s1,s2,s3])
  clear hb
  go_enter Tryz.func68,Tryz.ntmps68
  go_upto_region 1 with fail
  rw [<-HW0.out]
  go_wp2_with(first
  |(go_at_call 122;refine HBG.out.mono ?_;rintro e w1 ⟨rfl,hb⟩;have HB1:=iH hb;have g:=j4 (FR.out w1 hb);clear hb))
  go_ret
  rw [R.out]
  exact⟨rfl,HB0.out.trans (HB1.out.mono HB0.out.size)⟩
 by_cases hn:X.non.length=16
 ·have t1:((X.non.length:Int)==16)=true:=by simp;omega
  by_cases s2:X.st<2
  ·have s3:X.st<3:=by omega
   have R:=iH (show usC X=true by simp [usC,hb,s1,s2,s3,hn])
   clear hb hn
   go_enter Tryz.func68,Tryz.ntmps68
   go_upto_region 1 with fail
   rw [<-HW0.out]
   go_wp2_with(first
    |(go_at_call 122;refine HBG.out.mono ?_;rintro e w1 ⟨rfl,hb⟩;have HB1:=iH hb;have g:=j4 (FR.out w1 hb);clear hb))
   go_ret
   rw [R.out]
   exact⟨rfl,HB0.out.trans (HB1.out.mono HB0.out.size)⟩
  rcases hg:jk X.g with _|_
  ·have HG:=iH hg
   have R:=iH (show usC X=false by simp [usC,hb,s1,s2,hn,hg])
   clear hb hn hg
   go_enter Tryz.func68,Tryz.ntmps68
   go_upto_region 1 with fail
   rw [<-HW0.out]
   go_wp2_with(first
    |(go_at_call 122;refine HBG.out.mono ?_;rintro e w1 ⟨rfl,hb⟩;have HB1:=iH hb;have g:=j4 (FR.out w1 hb);clear hb)
    |(go_at_call 115;refine iR (km _ _) ?_;try(first|rw [HO.out]|rw [HT.out]|rw [HG.out])))
   go_ret
   rw [R.out]
   exact⟨rfl,HB0.out.trans (HB1.out.mono HB0.out.size)⟩
  have HG:=iH hg
  by_cases s3:X.st<3
  ·have R:=iH (show usC X=true by simp [usC,hb,s1,s2,s3,hn,hg])
   clear hb hn hg
   go_enter Tryz.func68,Tryz.ntmps68
   go_upto_region 1 with fail
   rw [<-HW0.out]
   go_wp2_with(first
   |(go_at_call 122;refine HBG.out.mono ?_;rintro e w1 ⟨rfl,hb⟩;have HB1:=iH hb;have g:=j4 (FR.out w1 hb);clear hb)
   |(go_at_call 115;refine iR (km _ _) ?_;try(first|rw [HO.out]|rw [HT.out]|rw [HG.out])))
   go_ret
   rw [R.out]
   exact⟨rfl,HB0.out.trans (HB1.out.mono HB0.out.size)⟩
  ·have R:=iH (show usC X=qe X by simp [usC,hb,s1,s2,s3,hn,hg])
   clear hb hn hg;have d3:decide (X.st<3)=false:=decide_eq_false s3
   go_enter Tryz.func68,Tryz.ntmps68
   go_upto_region 1 with fail
   rw [<-HW0.out]
   go_wp2_with(first
   |(go_at_call 122;refine HBG.out.mono ?_;rintro e w1 ⟨rfl,hb⟩;have HB1:=iH hb;have g:=j4 (FR.out w1 hb);clear hb)
   |(go_at_call 115;refine iR (km _ _) ?_;try(first|rw [HO.out]|rw [HT.out]|rw [HG.out]))
   |(go_at_call 123;refine(Kq X sA nA aA bA sc nc ac bc w1 (HA.out.lift HB1.out) (HB.out.lift HB1.out) HL.out.1 HL.out.2).mono ?_;rintro e w2 ⟨rfl,hb⟩;have HB2:=iH hb;clear hb))
   go_ret
   rw [R.out]
   exact⟨rfl,(HB0.out.trans (HB1.out.mono HB0.out.size)).trans (HB2.out.mono (HB0.out.trans (HB1.out.mono HB0.out.size)).size)⟩
 ·have t1:((X.non.length:Int)==16)=false:=by simp;omega
  have R:=iH (show usC X=false by simp [usC,hb,s1,hn])
  clear hb hn
  go_enter Tryz.func68,Tryz.ntmps68
  go_upto_region 1 with fail
  rw [<-HW0.out]
  go_wp2_with(first
  |(go_at_call 122;refine HBG.out.mono ?_;rintro e w1 ⟨rfl,hb⟩;have HB1:=iH hb;have g:=j4 (FR.out w1 hb);clear hb))
  go_ret
  rw [R.out]
  exact⟨rfl,HB0.out.trans (HB1.out.mono HB0.out.size)⟩
def ExO(r:Int×Exg×List UInt8×List UInt8)(w:World)(e:Ending)(w':World):Prop:=
 ∃y dA dc nA nc,e=.returned (.tuple #[y,.slice dA r.2.2.1.length dc,.slice nA r.2.2.2.length nc,.int .i64 r.1])/\ExL w' (·<w'.heap.size) y r.2.1/\Bs w' w'.heap.size (.slice dA r.2.2.1.length dc) r.2.2.1/\Bs w' w'.heap.size (.slice nA r.2.2.2.length nc) r.2.2.2/\Below w.heap.size w w'
theorem ExO.err{w w':World}{er:Int}{r:Int×Exg×List UInt8×List UInt8}(hr:r=jA er)(hb:Below w.heap.size w w'):ExO r w (.returned (.tuple #[.agg #[.int .i64 0,.slice none 0 0,.int .i64 0,.int .i64 0,.slice none 0 0,.int .i64 0,.int .i64 0,.int .i64 0,.int .i64 0,.slice none 0 0,.slice none 0 0,.int .i64 0],.slice none 0 0,.slice none 0 0,.int .i64 er])) w':=by
 subst hr
 exact⟨_,_,_,_,_,rfl,⟨_,_,_,_,rfl,k8 _ _,k8 _ _,k8 _ _,k8 _ _⟩,k8 _ _,k8 _ _,hb⟩
def j64(st:Int):Int:=if st=0 then -1 else yl st
theorem Zg(st:Int)(h:0<=st/\st<=3)(z:Nat)(B:List UInt8)(v:Value)(w:World)(hv:Bs w w.heap.size v B):Calls Tryz.prog 69 #[v,.int .i64 (j64 st),.int .i64 z] w (ValOut (kB B (yl st) z) w):=by
 unfold j64
 by_cases h0:st=0
 ·rw [iT h0,show yl st=0 by unfold yl;rw [iT h0]]
  exact Yk z B v w hv
 ·rw [iF h0]
  exact Q0 (yl st) (by unfold yl;rw [iF h0];omega) z B v w hv
section
variable(X:Exg)(sA nA aA bA:Option Addr)(sc nc ac bc:Nat)(vA eA:Option Addr)(vc ec:Nat)(B s:List UInt8)(w:World)(hK:KD w)(h1:Bs w w.heap.size (.slice sA X.sec.length sc) X.sec)(h2:Bs w w.heap.size (.slice nA X.non.length nc) X.non)(h3:Bs w w.heap.size (.slice aA X.k1.length ac) X.k1)(h4:Bs w w.heap.size (.slice bA X.k2.length bc) X.k2)(h5:Bs w w.heap.size (.slice vA B.length vc) B)(h6:Bs w w.heap.size (.slice eA s.length ec) s)(ls:X.sec.length<=140737488351232)(ln:X.non.length<=140737488351232)(l1:X.k1.length<=140737488351232)(l2:X.k2.length<=140737488351232)(hl:s.length<=140737488351232)
include X sA nA aA bA sc nc ac bc vA eA vc ec B s w hK h1 h2 h3 h4 h5 h6 ls ln l1 l2 hl
theorem Ul(hst:X.st<0\/3<X.st):Calls Tryz.prog 33 #[.agg #[.int .i64 X.kd,.slice sA X.sec.length sc,.int .i64 X.pr,.int .i64 X.st,.slice nA X.non.length nc,.int .i64 X.x,.int .i64 X.g,.int .i64 X.own,.int .i64 X.oth,.slice aA X.k1.length ac,.slice bA X.k2.length bc,.int .i64 X.ct],.slice vA B.length vc,.slice eA s.length ec] w (ExO (jv X B s) w):=by
 have R:Hid (jv X B s=jA 23):=iH (by unfold jv;rw [iT hst])
 obtain⟨w0,HW0,HB0,HSZ,FR,FZ,H1,H2,H3,H4,H5,H6⟩:=YN X sA nA aA bA sc nc ac bc h1 h2 h3 h4 h5 h6
 have HK:=iH hK;have HLN:=iH (And.intro ls (And.intro ln (And.intro l1 l2)));have HL:=iH hl
 have f:=j4 (FR.out w0 iB)
 have z:=j4 (FZ.out w0 iB)
 clear hK h1 h2 h3 h4 h5 h6 ls ln l1 l2 hl
 rcases hst with hst|hst
 all_goals
  go_enter Tryz.func33,Tryz.ntmps33
  go_upto_region 1 with fail
  rw [<-HW0.out]
  go_wp2_with fail
  have y:=j4 ((PtW.start (FZ.out w0 iB)).z12).1
  unfold Go.Proofs.YtalmmiojbmpmiaaGreatDoor.set12 at y
  refine bodyPost_ret (v:=.tuple #[.agg #[.int .i64 0,.slice none 0 0,.int .i64 0,.int .i64 0,.slice none 0 0,.int .i64 0,.int .i64 0,.int .i64 0,.int .i64 0,.slice none 0 0,.slice none 0 0,.int .i64 0],.slice none 0 0,.slice none 0 0,.int .i64 23]) (by simp [results,Tryz.results33,go_sem,y]) rfl ?_
  exact ExO.err R.out ((HB0.out.trans (iB.mono HB0.out.size)).trans (Below.mono (((PtW.start (FZ.out _ iB)).z12).2.2) (Nat.le_succ _)))
theorem Xm(hst:0<=X.st/\X.st<=3)(hus:usC X=false):Calls Tryz.prog 33 #[.agg #[.int .i64 X.kd,.slice sA X.sec.length sc,.int .i64 X.pr,.int .i64 X.st,.slice nA X.non.length nc,.int .i64 X.x,.int .i64 X.g,.int .i64 X.own,.int .i64 X.oth,.slice aA X.k1.length ac,.slice bA X.k2.length bc,.int .i64 X.ct],.slice vA B.length vc,.slice eA s.length ec] w (ExO (jv X B s) w):=by
 have R:Hid (jv X B s=jA 14):=iH (by unfold jv;rw [iF (by omega),iT hus])
 have HUS:=iH hus
 obtain⟨w0,HW0,HB0,HSZ,FR,FZ,H1,H2,H3,H4,H5,H6⟩:=YN X sA nA aA bA sc nc ac bc h1 h2 h3 h4 h5 h6
 have HK:=iH hK;have HLN:=iH (And.intro ls (And.intro ln (And.intro l1 l2)));have HL:=iH hl
 have f:=j4 (FR.out w0 iB)
 have z:=j4 (FZ.out w0 iB)
 clear hK h1 h2 h3 h4 h5 h6 ls ln l1 l2 hl
 clear hus
 go_enter Tryz.func33,Tryz.ntmps33
 go_upto_region 1 with fail
 rw [<-HW0.out]
 go_upto_region 4 with (go_at_call 68;refine(yn X sA nA aA bA sc nc ac bc w0 H3.out H4.out HLN.out.2.2.1 HLN.out.2.2.2).mono ?_;rw [HUS.out];rintro e w1 ⟨rfl,hb⟩;have HB1:=iH hb;clear f;have g:=j4 (FR.out _ hb);clear z;have z:=j4 (FZ.out _ hb);clear hb)
 go_wp2_with fail
 have y:=j4 ((PtW.start (FZ.out w1 HB1.out)).z12).1
 unfold Go.Proofs.YtalmmiojbmpmiaaGreatDoor.set12 at y
 refine bodyPost_ret (v:=.tuple #[.agg #[.int .i64 0,.slice none 0 0,.int .i64 0,.int .i64 0,.slice none 0 0,.int .i64 0,.int .i64 0,.int .i64 0,.int .i64 0,.slice none 0 0,.slice none 0 0,.int .i64 0],.slice none 0 0,.slice none 0 0,.int .i64 14]) (by simp [results,Tryz.results33,go_sem,y]) rfl ?_
 exact ExO.err R.out ((HB0.out.trans (HB1.out.mono HB0.out.size)).trans (Below.mono (((PtW.start (FZ.out _ HB1.out)).z12).2.2) (Nat.le_succ _)))
end
end Go.Proofs.YtalmmiojbmpmiaaGreatDoor
