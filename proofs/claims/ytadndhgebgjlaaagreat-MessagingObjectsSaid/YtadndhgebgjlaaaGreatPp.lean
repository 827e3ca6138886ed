/- Layer 2: the walk of the reader's length; Layer 2: words for the reader's object, objects and kids; Layer 2: the walk of object, over contracts of objects an... -/
import Derived.StillTailTactics
import Derived.Test.YtadndhgebgjlaaaGreatPj
import Derived.Test.YtadndhgebgjlaaaGreatPn
import Derived.Test.YtadndhgebgjlaaaGreatPo
set_option linter.all false
set_option maxRecDepth 100000
set_option maxHeartbeats 8000000
namespace Go.Proofs.YtadndhgebgjlaaaGreat
open Go.RowKit Go.Deep
theorem mF{P:Prop}(h:P:=by
 go_wp2_with fail
 go_ret2
 exact NumOut.yes E.out HR2.out HG.out):P:=h
theorem mJ{P:Prop}(h:P:=by
 split at h
 ·cases h
 ·injection h with h;omega):P:=h
theorem mL{P:Prop}(h:P:=by
 go_enter Tryz.func136,Tryz.ntmps136
 go_wp2_with(first
  |(go_at_call 144;refine HT.out.mono ?_;intro e1 w1 h1;obtain⟨rfl,hr1,hg1⟩:=NumOut.got h1;have S1:=iH (HS0.out.step hr1 hg1);clear h1 hr1 hg1;obtain⟨z0,z1,z2⟩:=S1.out.zc;have f0:=S1.out.zf 0;have f1:=S1.out.zf 1;have f2:=S1.out.zf 2;have r0:=S1.out.1.c0;have r1:=S1.out.1.c1;have r2:=S1.out.1.c2;have r3:=S1.out.1.c3;have q1:=S1.out.1.fr 1;have q3:=S1.out.1.fr 3)
  |(go_at_call 133;refine(HC.out _).mono ?_;rintro e w' ⟨rfl,rfl⟩)
  |(go_at_call 145;refine(HL _ (S1.out.bytes HB.out) S1.out.1).out.mono ?_;intro e2 w2 h2;obtain⟨rfl,hr2,hg2⟩:=NumOut.got h2;have S2:=iH (S1.out.step hr2 hg2);clear h2 hr2 hg2 z0 z1 z2 f0 f1 f2 r0 r1 r2 r3 q1 q3;obtain⟨z0,z1,z2⟩:=S2.out.zc;have f0:=S2.out.zf 0;have f1:=S2.out.zf 1;have f2:=S2.out.zf 2;have r0:=S2.out.1.c0;have r1:=S2.out.1.c1;have r2:=S2.out.1.c2;have r3:=S2.out.1.c3;have q1:=S2.out.1.fr 1;have q3:=S2.out.1.fr 3))
 obtain⟨y0,y1,y2⟩:=S2.out.cnt.finc 0 (.slice none 0 0) (.slice none 0 0)
 exact bodyPost_ret (v:=.tuple #[.agg #[.int .i64 0,.slice none 0 0,.slice none 0 0],.int .i64 7]) (by simp [results,Tryz.results136,go_sem,y0,y1,y2]) rfl (S2.out.cnt.no 0 E.out (by decide))):P:=h
theorem mM{P:Prop}(h:P:=by
 go_enter Tryz.func136,Tryz.ntmps136
 go_wp2_with(first
  |(go_at_call 144;refine HT.out.mono ?_;intro e1 w1 h1;obtain⟨rfl,hr1,hg1⟩:=NumOut.got h1;have S1:=iH (HS0.out.step hr1 hg1);clear h1 hr1 hg1;obtain⟨z0,z1,z2⟩:=S1.out.zc;have f0:=S1.out.zf 0;have f1:=S1.out.zf 1;have f2:=S1.out.zf 2;have r0:=S1.out.1.c0;have r1:=S1.out.1.c1;have r2:=S1.out.1.c2;have r3:=S1.out.1.c3;have q1:=S1.out.1.fr 1;have q3:=S1.out.1.fr 3)
  |(go_at_call 133;refine(HC.out _).mono ?_;rintro e w' ⟨rfl,rfl⟩)
  |(go_at_call 145;refine(HL _ (S1.out.bytes HB.out) S1.out.1).out.mono ?_;intro e2 w2 h2;obtain⟨rfl,hr2,hg2⟩:=NumOut.got h2;have S2:=iH (S1.out.step hr2 hg2);clear h2 hr2 hg2 z0 z1 z2 f0 f1 f2 r0 r1 r2 r3 q1 q3;obtain⟨z0,z1,z2⟩:=S2.out.zc;have f0:=S2.out.zf 0;have f1:=S2.out.zf 1;have f2:=S2.out.zf 2;have r0:=S2.out.1.c0;have r1:=S2.out.1.c1;have r2:=S2.out.1.c2;have r3:=S2.out.1.c3;have q1:=S2.out.1.fr 1;have q3:=S2.out.1.fr 3))
 obtain⟨y0,y1,y2⟩:=S2.out.cnt.finc 0 (.slice none 0 0) (.slice none 0 0)
 exact bodyPost_ret (v:=.tuple #[.agg #[.int .i64 0,.slice none 0 0,.slice none 0 0],.int .i64 2]) (by simp [results,Tryz.results136,go_sem,y0,y1,y2]) rfl (S2.out.cnt.no 0 E.out (by decide))):P:=h
theorem mN{P:Prop}(h:P:=by
 go_enter Tryz.func136,Tryz.ntmps136
 go_wp2_with(first
  |(go_at_call 144;refine HT.out.mono ?_;intro e1 w1 h1;obtain⟨rfl,hr1,hg1⟩:=NumOut.got h1;have S1:=iH (HS0.out.step hr1 hg1);clear h1 hr1 hg1;obtain⟨z0,z1,z2⟩:=S1.out.zc;have f0:=S1.out.zf 0;have f1:=S1.out.zf 1;have f2:=S1.out.zf 2;have r0:=S1.out.1.c0;have r1:=S1.out.1.c1;have r2:=S1.out.1.c2;have r3:=S1.out.1.c3;have q1:=S1.out.1.fr 1;have q3:=S1.out.1.fr 3)
  |(go_at_call 133;refine(HC.out _).mono ?_;rintro e w' ⟨rfl,rfl⟩)
  |(go_at_call 145;refine(HL _ (S1.out.bytes HB.out) S1.out.1).out.mono ?_;intro e2 w2 h2;obtain⟨rfl,hr2,hg2⟩:=NumOut.got h2;have S2:=iH (S1.out.step hr2 hg2);clear h2 hr2 hg2 z0 z1 z2 f0 f1 f2 r0 r1 r2 r3 q1 q3;obtain⟨z0,z1,z2⟩:=S2.out.zc;have f0:=S2.out.zf 0;have f1:=S2.out.zf 1;have f2:=S2.out.zf 2;have r0:=S2.out.1.c0;have r1:=S2.out.1.c1;have r2:=S2.out.1.c2;have r3:=S2.out.1.c3;have q1:=S2.out.1.fr 1;have q3:=S2.out.1.fr 3))
 obtain⟨y0,y1,y2⟩:=S2.out.cnt.finc 0 (.slice none 0 0) (.slice none 0 0)
 exact bodyPost_ret (v:=.tuple #[.agg #[.int .i64 0,.slice none 0 0,.slice none 0 0],.int .i64 6]) (by simp [results,Tryz.results136,go_sem,y0,y1,y2]) rfl (S2.out.cnt.no 0 E.out (by decide))):P:=h
theorem mO{P:Prop}(h:P:=by
 have n0:(er != 0)=true:=by simp [qb hs]
 have N0:=iH (qb hs)
 rw [hs]at HL
 clear hs ht hob
 go_enter Tryz.func136,Tryz.ntmps136
 go_wp2_with(first
  |(go_at_call 144;refine HT.out.mono ?_;intro e1 w1 h1;obtain⟨rfl,hr1,hg1⟩:=NumOut.got h1;have S1:=iH (HS0.out.step hr1 hg1);clear h1 hr1 hg1;obtain⟨z0,z1,z2⟩:=S1.out.zc;have f0:=S1.out.zf 0;have f1:=S1.out.zf 1;have f2:=S1.out.zf 2;have r0:=S1.out.1.c0;have r1:=S1.out.1.c1;have r2:=S1.out.1.c2;have r3:=S1.out.1.c3;have q1:=S1.out.1.fr 1;have q3:=S1.out.1.fr 3)
  |(go_at_call 133;refine(HC.out _).mono ?_;rintro e w' ⟨rfl,rfl⟩)
  |(go_at_call 145;refine(HL _ (S1.out.bytes HB.out) S1.out.1).out.mono ?_;intro e2 w2 h2;obtain⟨rfl,⟨a2,hr2⟩,hg2⟩:=NumOut.err h2;have S2:=iH (S1.out.step hr2 hg2);clear h2 hr2 hg2 z0 z1 z2 f0 f1 f2 r0 r1 r2 r3 q1 q3;obtain⟨z0,z1,z2⟩:=S2.out.zc;have f0:=S2.out.zf 0;have f1:=S2.out.zf 1;have f2:=S2.out.zf 2))
 obtain⟨y0,y1,y2⟩:=S2.out.finc 0 (.slice none 0 0) (.slice none 0 0)
 exact bodyPost_ret (v:=.tuple #[.agg #[.int .i64 0,.slice none 0 0,.slice none 0 0],.int .i64 er]) (by simp [results,Tryz.results136,go_sem,y0,y1,y2]) rfl (S2.out.no 0 E.out N0.out)):P:=h
theorem mQ{P:Prop}(h:P:=by
 have E:Hid (jG l opn true=.error 5):=by rw [E1.out,iT ⟨rfl,.inr ⟨by omega,tp.1 h7⟩⟩]<;>rfl
 clear tp h7
 go_wp2_with fail
 go_ret2
 exact NumOut.no E.out _ HR2.out HG.out):P:=h
theorem m03{P:Prop}(h:P:=by
 exact⟨fun o h=>by simp at h,fun er h=>by simp at h;omega⟩):P:=h
theorem m05{P:Prop}(h:P:=by
 rw [<-h];simp only [beV];simp only [Nat.reduceAdd];omega):P:=h
theorem m06{P:Prop}(h:P:=by
 rw [e]
 exact⟨fun h=>x8 h,fun h=>by rw [h]<;>rfl⟩):P:=h
theorem m09{P:Prop}(h:P:=by
 have hu:=hl0.1 r hl
 have HU:=iH hu
 clear hu
 rw [hl]at HF
 clear hl hl0
 go_enter Tryz.func136,Tryz.ntmps136
 go_upto_region 21 with (first
  |(go_at_call 144;refine HT.out.mono ?_;intro e1 w1 h1;obtain⟨rfl,hr1,hg1⟩:=NumOut.got h1;have S1:=iH (HS0.out.step hr1 hg1);clear h1 hr1 hg1;obtain⟨z0,z1,z2⟩:=S1.out.zc;have f0:=S1.out.zf 0;have f1:=S1.out.zf 1;have f2:=S1.out.zf 2;have r0:=S1.out.1.c0;have r1:=S1.out.1.c1;have r2:=S1.out.1.c2;have r3:=S1.out.1.c3;have q1:=S1.out.1.fr 1;have q3:=S1.out.1.fr 3)
  |(go_at_call 133;refine(HC.out _).mono ?_;rintro e w' ⟨rfl,rfl⟩)
  |(go_at_call 145;refine(HL _ (S1.out.bytes HB.out) S1.out.1).out.mono ?_;intro e2 w2 h2;obtain⟨rfl,hr2,hg2⟩:=NumOut.got h2;have S2:=iH (S1.out.step hr2 hg2);clear h2 hr2 hg2 z0 z1 z2 f0 f1 f2 r0 r1 r2 r3 q1 q3;obtain⟨z0,z1,z2⟩:=S2.out.zc;have f0:=S2.out.zf 0;have f1:=S2.out.zf 1;have f2:=S2.out.zf 2;have r0:=S2.out.1.c0;have r1:=S2.out.1.c1;have r2:=S2.out.1.c2;have r3:=S2.out.1.c3;have q1:=S2.out.1.fr 1;have q3:=S2.out.1.fr 3))
 have S3:=iH (S2.out.cnt.alloc (.cells #[.int .i64 t,.slice none 0 0,.slice none 0 0] 61))
 have X3:=iH (heap_alloc_new (w2.setCell ⟨p,3,none⟩ (.int .i64 ((c:Int)+1))) (.cells #[.int .i64 t,.slice none 0 0,.slice none 0 0] 61))
 obtain⟨w3,hw3⟩:∃w3,w3=(w2.setCell ⟨p,3,none⟩ (.int .i64 ((c:Int)+1))).alloc (.cells #[.int .i64 t,.slice none 0 0,.slice none 0 0] 61):=⟨_,rfl⟩
 have hX:(w2.setCell ⟨p,3,none⟩ (.int .i64 ((c:Int)+1))).heap.size=w2.heap.size:=by simp [World.setCell]
 rw [hX]at X3
 rw [<-hw3]at S3 X3 |-
 rw [<-HG.out]at S3
 have hlt2:=S2.out.lt
 have hpN:=S3.out.2.2.2
 clear hw3 hX z0 z1 z2 f0 f1 f2 r0 r1 r2 r3 q1 q3
 obtain⟨x0,x1,x2,xf⟩:=jO X3.out
 have xf1:=xf 2
 clear xf
 obtain⟨z0,z1,z2⟩:=S3.out.zc;have f0:=S3.out.zf 0;have f1:=S3.out.zf 1;have f2:=S3.out.zf 2;have r0:=S3.out.1.c0;have r1:=S3.out.1.c1;have r2:=S3.out.1.c2;have r3:=S3.out.1.c3;have q1:=S3.out.1.fr 1;have q3:=S3.out.1.fr 3
 go_wp2_with(go_at_call 112;refine(HF _ (S3.out.bytes HB.out) S3.out.1).out.mono ?_;intro e4 w4 h4;obtain⟨v4,rfl,hv4,hr4,hg4⟩:=h4;obtain⟨va,vc,rfl⟩:=NsS.form2 hv4;have Hv4:=iH hv4;have S4:=iH (S3.out.step hr4 hg4);have X4:=iH ((hg4.block _ (iG X3.out) (by intro e;injection e with e;omega)).trans X3.out);clear hv4 hr4 hg4 z0 z1 z2 f0 f1 f2 r0 r1 r2 r3 q1 q3 x0 x1 x2 xf1;obtain⟨x0,x1,x2,xf⟩:=jO X4.out;have xf1:=xf 2;clear xf;obtain⟨z0,z1,z2⟩:=S4.out.zc;have f0:=S4.out.zf 0;have f1:=S4.out.zf 1;have f2:=S4.out.zf 2;have r0:=S4.out.1.c0;have r1:=S4.out.1.c1;have r2:=S4.out.1.c2;have r3:=S4.out.1.c3;have q1:=S4.out.1.fr 1;have q3:=S4.out.1.fr 3)
 have S5:=S4.out.other hlt2 2 (.slice va r.list.len vc)
 obtain⟨y0,y1,y2⟩:=S5.finc t (.slice none 0 0) (.slice va r.list.len vc)
 have hX3:=(iG X3.out)
 exact bodyPost_ret (v:=.tuple #[.agg #[.int .i64 t,.slice none 0 0,.slice va r.list.len vc],.int .i64 0]) (by simp [results,Tryz.results136,go_sem,y0,y1,y2]) rfl
  (S5.yes E.out (BsS.nil0 _ _) (Hv4.out.keep fun b hb _=>⟨iO (by have:=hb.1;show b≠w2.heap.size;omega),by have:=hb.1;omega,by simpa [World.setCell]using hb.2⟩) HI.out (by have:=HG.out;have:=HU.out.2.2 (by simp);rw [jx (by omega)]at this;simp only;omega) rfl)):P:=h
theorem m0b{P:Prop}(h:P:=by
 have ner:er≠0:=hl0.2 er hl
 have n0:(er != 0)=true:=by simp [ner]
 have N0:=iH ner
 rw [hl]at HF
 clear hl hl0 ner
 go_enter Tryz.func136,Tryz.ntmps136
 go_upto_region 21 with (first
  |(go_at_call 144;refine HT.out.mono ?_;intro e1 w1 h1;obtain⟨rfl,hr1,hg1⟩:=NumOut.got h1;have S1:=iH (HS0.out.step hr1 hg1);clear h1 hr1 hg1;obtain⟨z0,z1,z2⟩:=S1.out.zc;have f0:=S1.out.zf 0;have f1:=S1.out.zf 1;have f2:=S1.out.zf 2;have r0:=S1.out.1.c0;have r1:=S1.out.1.c1;have r2:=S1.out.1.c2;have r3:=S1.out.1.c3;have q1:=S1.out.1.fr 1;have q3:=S1.out.1.fr 3)
  |(go_at_call 133;refine(HC.out _).mono ?_;rintro e w' ⟨rfl,rfl⟩)
  |(go_at_call 145;refine(HL _ (S1.out.bytes HB.out) S1.out.1).out.mono ?_;intro e2 w2 h2;obtain⟨rfl,hr2,hg2⟩:=NumOut.got h2;have S2:=iH (S1.out.step hr2 hg2);clear h2 hr2 hg2 z0 z1 z2 f0 f1 f2 r0 r1 r2 r3 q1 q3;obtain⟨z0,z1,z2⟩:=S2.out.zc;have f0:=S2.out.zf 0;have f1:=S2.out.zf 1;have f2:=S2.out.zf 2;have r0:=S2.out.1.c0;have r1:=S2.out.1.c1;have r2:=S2.out.1.c2;have r3:=S2.out.1.c3;have q1:=S2.out.1.fr 1;have q3:=S2.out.1.fr 3))
 have S3:=iH (S2.out.cnt.alloc (.cells #[.int .i64 t,.slice none 0 0,.slice none 0 0] 61))
 have X3:=iH (heap_alloc_new (w2.setCell ⟨p,3,none⟩ (.int .i64 ((c:Int)+1))) (.cells #[.int .i64 t,.slice none 0 0,.slice none 0 0] 61))
 obtain⟨w3,hw3⟩:∃w3,w3=(w2.setCell ⟨p,3,none⟩ (.int .i64 ((c:Int)+1))).alloc (.cells #[.int .i64 t,.slice none 0 0,.slice none 0 0] 61):=⟨_,rfl⟩
 have hX:(w2.setCell ⟨p,3,none⟩ (.int .i64 ((c:Int)+1))).heap.size=w2.heap.size:=by simp [World.setCell]
 rw [hX]at X3
 rw [<-hw3]at S3 X3 |-
 rw [<-HG.out]at S3
 have hlt2:=S2.out.lt
 have hpN:=S3.out.2.2.2
 clear hw3 hX z0 z1 z2 f0 f1 f2 r0 r1 r2 r3 q1 q3
 obtain⟨x0,x1,x2,xf⟩:=jO X3.out
 have xf1:=xf 2
 clear xf
 obtain⟨z0,z1,z2⟩:=S3.out.zc;have f0:=S3.out.zf 0;have f1:=S3.out.zf 1;have f2:=S3.out.zf 2;have r0:=S3.out.1.c0;have r1:=S3.out.1.c1;have r2:=S3.out.1.c2;have r3:=S3.out.1.c3;have q1:=S3.out.1.fr 1;have q3:=S3.out.1.fr 3
 go_wp2_with(go_at_call 112;refine(HF _ (S3.out.bytes HB.out) S3.out.1).out.mono ?_;intro e4 w4 h4;obtain⟨_,rfl,⟨a4,c4,hr4⟩,hg4⟩:=h4;have S4:=iH (S3.out.step hr4 hg4);have X4:=iH ((hg4.block _ (iG X3.out) (by intro e;injection e with e;omega)).trans X3.out);clear hr4 hg4 z0 z1 z2 f0 f1 f2 r0 r1 r2 r3 q1 q3 x0 x1 x2 xf1;obtain⟨x0,x1,x2,xf⟩:=jO X4.out;have xf1:=xf 2;clear xf;obtain⟨z0,z1,z2⟩:=S4.out.zc;have f0:=S4.out.zf 0;have f1:=S4.out.zf 1;have f2:=S4.out.zf 2;have r0:=S4.out.1.c0;have r1:=S4.out.1.c1;have r2:=S4.out.1.c2;have r3:=S4.out.1.c3;have q1:=S4.out.1.fr 1;have q3:=S4.out.1.fr 3)
 have S5:=S4.out.other hlt2 2 (.slice none 0 0)
 obtain⟨y0,y1,y2⟩:=S5.finc t (.slice none 0 0) (.slice none 0 0)
 exact bodyPost_ret (v:=.tuple #[.agg #[.int .i64 t,.slice none 0 0,.slice none 0 0],.int .i64 er]) (by simp [results,Tryz.results136,go_sem,y0,y1,y2]) rfl (S5.no t E.out N0.out)):P:=h
theorem m0h{P:Prop}(h:P:=by
 obtain⟨x1,x2,x3,x4⟩:=hso.1 x hx
 rw [jx he]at x2
 have E2:Hid (jh st n (rst B a e) d c true=yY (L.app (.cons x.tag x.val x.kids .nil)) (u+x.used) (jh st m (rst B (a+(u+x.used)) e) d x.count true)):=by
  rw [E.out,jS hh hx,qy,jM,Nat.add_assoc]<;>rfl
 rw [hx]at HOB
 clear hx hso hh E x4
 go_wp2_with fail
 go_quiet (fail)
 obtain⟨q1,hq1⟩:∃q,q=nq:=⟨_,rfl⟩
 rw [<-hq1]
 clear hq1
 go_wp2_with fail
 go_quiet (fail)
 have S:=iH (S.out.draws (q1+nq))
 go_wp2_with(first
  |(go_at_call 136;refine(HOB _ (S.out.bytes HB.out) S.out.rd).out.mono ?_;intro e1 w1 h1;obtain⟨vv,kv,rfl,hv1,hk1,hi1,hr1,hg1⟩:=h1;obtain⟨va,vc,rfl⟩:=hv1.form2;obtain⟨ka,kc,rfl⟩:=NsS.form2 hk1;have S1:=iH (S.out.after hr1 hg1 hp);have Hv1:=iH hv1;have Hk1:=iH hk1;have Hi1:=iH hi1;have z1:=S1.out.lt;clear hv1 hk1 hr1 hg1 hi1)
  |(at_builtin;(with_reducible refine jz rfl (.tmp 82) (.tmp 84) rfl w.heap.size (.slice oa L.len oc) L rfl (S1.out.own.alloc (.cells #[.int .i64 x.tag,.slice va x.val.length vc,.slice ka x.kids.len kc] 61)) x.tag x.val x.kids (.slice va x.val.length vc) (.slice ka x.kids.len kc) _ (w1.heap.size+1) rfl (by simp) Hi1.out (Hv1.out.keep fun b hs hl=>yV S.out.own S.out.lt _ hs hl) (Hk1.out.keep fun b hs hl=>yV S.out.own S.out.lt _ hs hl) (by omega) (by simp;omega) ?_);intro o2 w2 hg2;have S2:=iH ((S1.out.alloc (.cells #[.int .i64 x.tag,.slice va x.val.length vc,.slice ka x.kids.len kc] 61)).push hg2 hp);clear hg2))
 go_roundg m
 case measure=>omega
 case rel=>exact⟨L.app (.cons x.tag x.val x.kids .nil),u+x.used,x.count,E2.out,by rw [<-Nat.add_assoc];exact S2.out,by omega,by omega,by omega,x3,by rw [Ns.len_snoc];omega⟩):P:=h
theorem m0y{P:Prop}(h:P:=by
 have E2:Hid (jh st n (rst B a e) d c true=.error er):=by rw [E.out,jJ hh hx]<;>rfl
 have ner:=hso.2 er hx
 have n0:(er != 0)=true:=by simp [ner]
 have N0:=iH ner
 rw [hx]at HOB
 clear hx hso ner hh E
 go_wp2_with fail
 go_quiet (fail)
 obtain⟨q1,hq1⟩:∃q,q=nq:=⟨_,rfl⟩
 rw [<-hq1]
 clear hq1
 go_wp2_with fail
 go_quiet (fail)
 have S:=iH (S.out.draws (q1+nq))
 go_wp2_with(go_at_call 136;refine(HOB _ (S.out.bytes HB.out) S.out.rd).out.mono ?_;intro e1 w1 h1;obtain⟨_,⟨t1,rfl⟩,⟨a1,c1,hr1⟩,hg1⟩:=h1;have S1:=iH (S.out.after hr1 hg1 hp);clear hr1 hg1)
 go_ret2
 exact ListOut.no E2.out N0.out (S1.out.alloc _)):P:=h
theorem m1u{P:Prop}(h:P:=by
 cases x with
 |error e=>exact⟨fun r h=>by simp at h,fun er h=>by simp at h;subst h;exact Xq hh⟩
 |ok u=>exact⟨fun r h=>by simp at h;subst h;exact⟨(Jt hh).1,hc,(Jt hh).2⟩,fun er h=>by simp at h⟩):P:=h
theorem m2x{P:Prop}(h:P:=by
 have h:=QZ l k
 have:(256:Int) ^ k<=256 ^ 3:=by
  obtain h|h|h|h:k=0\/k=1\/k=2\/k=3:=by omega
  all_goals subst h;decide
 omega):P:=h
theorem m33{P:Prop}(h:P:=by
 exact⟨fun o h=>by simp at h;subst h;exact⟨by simp only;omega,by simp only;omega,u2,tv⟩,fun er h=>by simp at h⟩):P:=h
theorem m3b{P:Prop}(h:P:=by
 split at h
 ·injection h with h;injection h with h1 h2;subst h1 h2;exact⟨‹_›,by omega,by omega⟩
 ·cases h):P:=h
theorem m3u{P:Prop}(h:P:=by
 rw [E.out,kx (u:=2) (by unfold kj;rw [iT rfl,iF hn1,iT ⟨g0',g1'⟩]),yt]<;>rfl):P:=h
section
variable(l:List UInt8)
include l
theorem X6(k:Nat):0<=beV l k:=by
 induction k with
 |zero=>exact Int.le_refl _
 |succ k ih=>rw [beV];have:=jU (gb l (k+1));omega
theorem QZ(k:Nat):beV l k<256 ^ k:=by
 induction k with
 |zero=>show(0:Int)<256 ^ 0;decide
 |succ k ih=>rw [beV,Int.pow_succ];have:=jX (gb l (k+1));omega
theorem YQ(f:UInt8)(x:Nat)(o st:Bool)(h:¬l.length=0)(h0:gb l 0=f)(hx:x=f.toNat):jG l o st=if(x:Int)<128 then .ok (x,1)else if 132<(x:Int)then .error 5 else if(x:Int)=128 then(if o=true then .ok (-1,1)else .error 5)
 else if l.length<1+(x - 128)then .error 6 else if st=true/\(beV l (x - 128)<128\/(1<x - 128/\gb l 1=0))then .error 5 else .ok (beV l (x - 128),1+(x - 128)):=by
 subst hx h0
 unfold jG
 rw [iF h]
 rfl
theorem j15(z:Nat)(h:beV l 2=z):(z:Int) / 256=0↔gb l 1=0:=by
 have b1:=jX (gb l 1);have b2:=jX (gb l 2);have b3:=jX (gb l 3);have b4:=jX (gb l 4)
 have n1:=jU (gb l 1);have n2:=jU (gb l 2);have n3:=jU (gb l 3);have n4:=jU (gb l 4)
 have e:(z:Int) / 256=bv (gb l 1):=by
  exact m05
 exact m06
theorem j16(z:Nat)(h:beV l 3=z):(z:Int) / 65536=0↔gb l 1=0:=by
 have b1:=jX (gb l 1);have b2:=jX (gb l 2);have b3:=jX (gb l 3);have b4:=jX (gb l 4)
 have n1:=jU (gb l 1);have n2:=jU (gb l 2);have n3:=jU (gb l 3);have n4:=jU (gb l 4)
 have e:(z:Int) / 65536=bv (gb l 1):=by
  exact m05
 exact m06
theorem j17(z:Nat)(h:beV l 4=z):(z:Int) / 16777216=0↔gb l 1=0:=by
 have b1:=jX (gb l 1);have b2:=jX (gb l 2);have b3:=jX (gb l 3);have b4:=jX (gb l 4)
 have n1:=jU (gb l 1);have n2:=jU (gb l 2);have n3:=jU (gb l 3);have n4:=jU (gb l 4)
 have e:(z:Int) / 16777216=bv (gb l 1):=by
  exact m05
 exact m06
end
theorem BsS.ne{w:World}{S:Nat->Prop}{bb bo n c:Nat}{l:List UInt8}(h:BsS w S (.slice (some ⟨bb,bo,none⟩) n c) l)(hl:0<l.length):S bb:=by
 obtain⟨_,_,hv,_,_,_,h4⟩:=h
 obtain⟨_,_,e1,e2,_⟩:=h4 hl
 exact m3h
theorem QF(B:List UInt8)(bb bo bc p a e cnt:Nat)(st opn:Bool)(w:World)(hB:BsS w (·≠p) (.slice (some ⟨bb,bo,none⟩) B.length bc) B)(he:e<=B.length)(hr:Rd w p (.slice (some ⟨bb,bo,none⟩) B.length bc) a st cnt)(ha:a<=e):
 Calls Tryz.prog 145 #[.pointer (some ⟨p,0,none⟩),.int .i64 e,.bool opn] w (NumOut (jG (rst B a e) opn st) w p (.slice (some ⟨bb,bo,none⟩) B.length bc) a st cnt):=by
 have c0:=hr.c0;have c1:=hr.c1
 have hfz:=hr.fr 1
 have hlen:=hB.len
 have HR:=iH hr;have HB:=iH hB
 clear hr hB
 by_cases h0:a=e
 ·subst h0
  have E:Hid (jG (rst B a a) opn st=.error 6):=by unfold jG;rw [iT (by rw [jx he];omega)]<;>rfl
  go_enter Tryz.func145,Tryz.ntmps145
  exact m3v
 ·have hlt:a<e:=by omega
  have hl:a<B.length:=by omega
  have q1:=HB.out.cellAt rfl hl
  have hbp:bb≠p:=HB.out.ne (by omega)
  have b1:(0:Int)<=a:=by omega
  have b2:(a:Int)<B.length:=by omega
  have g0:gb (rst B a e) 0=gb B a:=Je he (by omega)
  have hne:¬(rst B a e).length=0:=by rw [jx he];omega
  obtain⟨x,hx⟩:∃x:Nat,x=(gb B a).toNat:=⟨_,rfl⟩
  have ex:bv (gb B a)=x:=by rw [hx]<;>rfl
  have hxl:x<256:=by rw [hx];exact UInt8.toNat_lt _
  change w.cell? _=some (.int .u8 (bv (gb B a)))at q1
  rw [ex]at q1
  have E0:=iH (YQ (rst B a e) (gb B a) x opn st hne g0 hx)
  have HX:=iH hx
  clear g0 hne h0 hx ex
  by_cases h1:x<128
  ·have E:Hid (jG (rst B a e) opn st=.ok ((x:Int),1)):=by rw [E0.out,iT (by omega)]<;>rfl
   go_enter Tryz.func145,Tryz.ntmps145
   go_wp2_with fail
   go_quiet (fail)
   go_wp2_with fail
   exact mZ
  ·by_cases h2:132<x
   ·have E:Hid (jG (rst B a e) opn st=.error 5):=by rw [E0.out,iF (by omega),iT (by omega)]<;>rfl
    go_enter Tryz.func145,Tryz.ntmps145
    go_wp2_with fail
    go_quiet (fail)
    go_wp2_with fail
    exact mv
   ·by_cases h3:x=128
    ·subst h3
     cases opn with
     |true=>
      have E:Hid (jG (rst B a e) true st=.ok (-1,1)):=by rw [E0.out,iF (by omega),iF (by omega),iT (by omega),iT rfl]<;>rfl
      clear HX
      go_enter Tryz.func145,Tryz.ntmps145
      go_wp2_with fail
      go_quiet (fail)
      go_wp2_with fail
      exact mZ
     |false=>
      have E:Hid (jG (rst B a e) false st=.error 5):=by rw [E0.out,iF (by omega),iF (by omega),iT (by omega),iF (by decide)]<;>rfl
      clear HX
      go_enter Tryz.func145,Tryz.ntmps145
      go_wp2_with fail
      go_quiet (fail)
      go_wp2_with fail
      exact mv
    ·obtain⟨s,rfl,hs1,hs4⟩:∃s:Nat,x=128+s/\1<=s/\s<=4:=⟨x - 128,by omega,by omega,by omega⟩
     have hand:bits .and .i64 (128+(s:Int)) 15=s:=by
      have:=bits_mask .i64 63 (by decide) (fun n a b=>IntWalk.i64_in n ⟨by omega,by omega⟩) 4 (by decide) (128+(s:Int)) (by omega) (by omega)
      rw [show(15:Int)=2 ^ 4 - 1 by decide,this];omega
     have e15:(15:Int)=2 ^ 4 - 1:=by decide
     have E1:=E0.out
     rw [iF (by omega),iF (by omega),iF (by omega),show 128+s - 128=s by omega]at E1
     clear E0 HX h1 h2 h3 e15
     by_cases h4:e<a+1+s
     ·have E:Hid (jG (rst B a e) opn st=.error 6):=by rw [E1,iT (by rw [jx he];omega)]<;>rfl
      clear E1
      go_enter Tryz.func145,Tryz.ntmps145
      go_wp2_with fail
      go_quiet (fail)
      go_wp2_with fail
      exact mv
     ·rw [iF (by rw [jx he];omega)]at E1
      have E1:=iH E1
      have hg1:gb (rst B a e) 1=gb B (a+1):=Je he (by omega)
      obtain⟨l,hL⟩:∃l,l=rst B a e:=⟨_,rfl⟩
      have hgl:Hid (∀j,a+j<e->gb l j=gb B (a+j)):=fun j hj=>by rw [hL];exact Je he hj
      rw [<-hL]at E1 |-
      clear hL
      have h5:a+1+s<=e:=by omega
      clear h4
      go_enter Tryz.func145,Tryz.ntmps145
      go_wp2_with fail
      go_quiet (fail)
      go_wp2_with fail
      go_loopg [10,62] s (fun m n i wr=>∃k:Nat,k+m=s/\i=.int .i64 k/\n=.int .i64 (beV l k)/\Rd wr p (.slice (some ⟨bb,bo,none⟩) B.length bc) (a+1+k) st cnt/\w.grownBy wr (some p))
      case atStart=>exact⟨0,by omega,rfl,rfl,(HR.out.drewN nq).at_ (a+1) _ (by omega),jb (jA (World.grownBy.refl w _) nq) (.inl rfl) _⟩
      case round=>
       obtain⟨k,hk,rfl,rfl,hr,hg⟩:=hrel
       by_cases hlt:k<s
       ·obtain⟨q,hq⟩:∃q,q=a+1+k:=⟨_,rfl⟩
        have hql:q<B.length:=by omega
        have hy0:=hgl.out (k+1) (by omega)
        rw [show a+(k+1)=q by omega]at hy0
        rw [<-hq]at hr
        have q2:=(World.cell?_of_block (hg.block bb (block_lt_of_cell (HB.out.cellAt rfl hql)) (by intro e;injection e;exact hbp (by assumption)))).trans (HB.out.cellAt rfl hql)
        obtain⟨x,hx⟩:=Int.eq_ofNat_of_zero_le (X6 l k)
        obtain⟨y,hy⟩:∃y:Nat,y=(gb B q).toNat:=⟨_,rfl⟩
        have ey:bv (gb B q)=y:=by rw [hy]<;>rfl
        have hyl:y<256:=by rw [hy];exact UInt8.toNat_lt _
        have hxl:x<16777216:=by
         exact m2x
        have o1:=j06 x y (by omega) hyl
        have E2:Hid (beV l (k+1)=(x:Int)*256+y):=by rw [beV,hy0,ey,hx,Int.mul_comm]<;>rfl
        change wr.cell? _=some (.int .u8 (bv (gb B q)))at q2
        rw [ey]at q2
        rw [hx]
        have c0:=hr.c0;have c1:=hr.c1;have hfz:=hr.fr 1
        have HR2:=iH hr;have HG:=iH hg
        have b3:(0:Int)<=q:=by omega
        have b4:(q:Int)<B.length:=by omega
        have hq1:q+1=a+1+(k+1):=by omega
        have HQ:=iH hq1
        clear hr hg hy0 hy ey hx hq hq1 q1
        go_wp2_with fail
        go_quiet (fail)
        go_wp2_with fail
        go_roundg (s - (k+1))
        case measure=>omega
        case rel=>exact⟨k+1,by omega,by go_num,by rw [E2.out],(HR2.out.drewN nq).at_ (a+1+(k+1)) _ (by have:=HQ.out;omega),jb (jA HG.out nq) (.inl rfl) _⟩
       ·obtain rfl:k=s:=by omega
        obtain⟨z,hz⟩:=Int.eq_ofNat_of_zero_le (X6 l k)
        have hzl:=QZ l k
        rw [hz]at E1 hzl |-
        have hr2:Rd wr p (.slice (some ⟨bb,bo,none⟩) B.length bc) (a+(1+k)) st cnt:=by rw [<-Nat.add_assoc];exact hr
        have c0:=hr.c0;have c1:=hr.c1;have c2:=hr.c2
        have HR2:=iH hr2;have HG:=iH hg
        have HZ:=iH hz;have HZL:=iH hzl
        clear hr hg hr2 hz hzl q1
        cases st with
        |false=>
         have E:Hid (jG l opn false=.ok ((z:Int),1+k)):=by rw [E1.out,iF (by simp)]<;>rfl
         exact mF
        |true=>
         by_cases h6:z<128
         ·have E:Hid (jG l opn true=.error 5):=by rw [E1.out,iT ⟨rfl,.inl (by omega)⟩]<;>rfl
          go_wp2_with fail
          go_ret2
          exact NumOut.no E.out _ HR2.out HG.out
         ·have d6:decide ((z:Int)<128)=false:=by simp;omega
          obtain rfl|rfl|rfl|rfl:k=1\/k=2\/k=3\/k=4:=by omega
          ·have E:Hid (jG l opn true=.ok ((z:Int),1+1)):=by rw [E1.out,iF (by omega)]<;>rfl
           have z0:((z:Int)==0)=false:=by simp;omega
           go_wp2_with fail
           go_ret2
           exact NumOut.yes E.out HR2.out HG.out
          ·have tp:=j15 l z HZ.out
           by_cases h7:(z:Int) / 256=0
           ·have z0:((z:Int) / 256==0)=true:=by simp [h7]
            exact mQ
           ·have z0:((z:Int) / 256==0)=false:=by simp [h7]
            have E:Hid (jG l opn true=.ok ((z:Int),1+2)):=by rw [E1.out,iF (fun h=>h.2.elim (by omega) fun h=>h7 (tp.2 h.2))]<;>rfl
            clear tp h7
            exact mF
          ·have tp:=j16 l z HZ.out
           by_cases h7:(z:Int) / 65536=0
           ·have z0:((z:Int) / 65536==0)=true:=by simp [h7]
            exact mQ
           ·have z0:((z:Int) / 65536==0)=false:=by simp [h7]
            have E:Hid (jG l opn true=.ok ((z:Int),1+3)):=by rw [E1.out,iF (fun h=>h.2.elim (by omega) fun h=>h7 (tp.2 h.2))]<;>rfl
            clear tp h7
            exact mF
          ·have tp:=j17 l z HZ.out
           by_cases h7:(z:Int) / 16777216=0
           ·have z0:((z:Int) / 16777216==0)=true:=by simp [h7]
            exact mQ
           ·have z0:((z:Int) / 16777216==0)=false:=by simp [h7]
            have E:Hid (jG l opn true=.ok ((z:Int),1+4)):=by rw [E1.out,iF (fun h=>h.2.elim (by omega) fun h=>h7 (tp.2 h.2))]<;>rfl
            clear tp h7
            exact mF
def JD(r:Except Int j3x)(w:World)(p:Nat)(bv:Value)(a:Nat)(st:Bool)(e:Ending)(w':World):Prop:=
 match r with
 |.error er=>er≠0/\(∃t:Int,e=.returned (.tuple #[.agg #[.int .i64 t,.slice none 0 0,.slice none 0 0],.int .i64 er]))/\(∃a' c',Rd w' p bv a' st c')/\w.grownBy w' (some p)
 |.ok o=>∃vv kv,e=.returned (.tuple #[.agg #[.int .i64 o.tag,vv,kv],.int .i64 0])/\BsS w' (New w w') vv o.val/\NsS w' (New w w') kv o.kids/\kB o.tag/\Rd w' p bv (a+o.used) st o.count/\w.grownBy w' (some p)
def ListOut(r:Except Int Lst)(w:World)(p:Nat)(bv:Value)(a:Nat)(st:Bool)(e:Ending)(w':World):Prop:=
 match r with
 |.error er=>er≠0/\e=.returned (.tuple #[.slice none 0 0,.int .i64 er])/\(∃a' c',Rd w' p bv a' st c')/\w.grownBy w' (some p)
 |.ok o=>∃v,e=.returned (.tuple #[v,.int .i64 0])/\NsS w' (New w w') v o.list/\Rd w' p bv (a+o.used) st o.count/\w.grownBy w' (some p)
def OSt(w wi:World)(p:Nat)(bv:Value)(a:Nat)(st:Bool)(c:Nat):Prop:=
 Rd wi p bv a st c/\w.grownBy wi (some p)/\wi.heap[w.heap.size]?=some (.cells #[.int .i64 0,.slice none 0 0,.slice none 0 0] 61 (0,0))/\p<w.heap.size
theorem OSt.start{w:World}{p:Nat}{bv:Value}{a:Nat}{st:Bool}{c:Nat}(h:Rd w p bv a st c):OSt w (w.alloc (.cells #[.int .i64 0,.slice none 0 0,.slice none 0 0] 61)) p bv a st c:=
 ⟨(Below.heap_alloc w _ p h.lt).trans h,jT (World.grownBy.refl w _) _,iN,h.lt⟩
theorem OSt.step{w wi wj:World}{p:Nat}{bv:Value}{a a':Nat}{st:Bool}{c c':Nat}(h:OSt w wi p bv a st c)(hr:Rd wj p bv a' st c')(hg:wi.grownBy wj (some p)):OSt w wj p bv a' st c':=
 ⟨hr,kr h.2.1 hg,(hg.block _ (iG h.2.2.1) (by intro e;injection e with e;have:=h.2.2.2;omega)).trans h.2.2.1,h.2.2.2⟩
section
variable{w wi:World}{p:Nat}{bv:Value}{a:Nat}{st:Bool}{c:Nat}(h:OSt w wi p bv a st c)
include w wi p bv a st c h
theorem OSt.zc:wi.cell? ⟨w.heap.size,0,none⟩=some (.int .i64 0)/\wi.cell? ⟨w.heap.size,1,none⟩=some (.slice none 0 0)/\wi.cell? ⟨w.heap.size,2,none⟩=some (.slice none 0 0):=by
 refine⟨?_,?_,?_⟩<;>(rw [cell_of_row _ _ _ _ _ _ h.2.2.1]<;>rfl)
theorem OSt.zf(o:Nat):wi.frozen? ⟨w.heap.size,o,none⟩=false:=by simp [World.frozen?,h.2.2.1]
end
theorem OSt.bytes{w wi:World}{p:Nat}{bv x:Value}{a:Nat}{st:Bool}{c:Nat}{l:List UInt8}(h:OSt w wi p bv a st c)(hB:BsS w (·≠p) x l):BsS wi (·≠p) x l:=
 hB.keep fun b hs hl=>⟨h.2.1.block b hl (by intro e;injection e with e;exact hs (by omega)),hs⟩
theorem NumOut.err{er:Int}{w:World}{p:Nat}{bv:Value}{a:Nat}{st:Bool}{c:Nat}{e:Ending}{w':World}(h:NumOut (.error er) w p bv a st c e w'):e=.returned (.tuple #[.int .i64 0,.int .i64 er])/\(∃a',Rd w' p bv a' st c)/\w.grownBy w' (some p):=
 ⟨h.1,⟨_,h.2.1.choose_spec.1⟩,h.2.2⟩
theorem NumOut.got{n:Int}{k:Nat}{w:World}{p:Nat}{bv:Value}{a:Nat}{st:Bool}{c:Nat}{e:Ending}{w':World}(h:NumOut (.ok (n,k)) w p bv a st c e w'):e=.returned (.tuple #[.int .i64 n,.int .i64 0])/\Rd w' p bv (a+k) st c/\w.grownBy w' (some p):=by
 obtain⟨h1,⟨a',h2,h3⟩,h4⟩:=h
 have:=h3 _ rfl
 subst this
 exact⟨h1,h2,h4⟩
section
variable{l:List UInt8}
include l
theorem yE{er:Int}(h:qg l=.error er):er≠0:=by
 unfold qg at h
 split at h
 ·injection h with h;omega
 ·split at h
  ·split at h
   ·injection h with h;omega
   ·exact mJ
  ·exact mJ
theorem zU{t:Int}{k:Nat}(h:qg l=.ok (t,k)):qX t=true/\1<=k/\k<=l.length:=by
 unfold qg at h
 split at h
 ·cases h
 ·split at h
  ·split at h
   ·cases h
   ·exact m3b
  ·exact m3b
theorem qb{o st:Bool}{er:Int}(h:jG l o st=.error er):er≠0:=by
 unfold jG at h
 split at h
 ·injection h with h;omega
 ·split at h
  ·cases h
  ·split at h
   ·injection h with h;omega
   ·split at h
    ·exact mJ
    ·split at h
     ·injection h with h;omega
     ·split at h
      ·injection h with h;omega
      ·cases h
theorem xF{o st:Bool}{n:Int}{j:Nat}(h:jG l o st=.ok (n,j)):1<=j/\j<=l.length/\n<=4294967296/\(0<=n\/(n= -1/\o=true)):=by
 unfold jG at h
 split at h
 ·cases h
 ·split at h
  ·injection h with h;injection h with h1 h2;subst h1 h2
   have:=jU (gb l 0);have:=jX (gb l 0)
   exact⟨by omega,by omega,by omega,.inl (by omega)⟩
  ·split at h
   ·cases h
   ·split at h
    ·split at h
     ·injection h with h;injection h with h1 h2;subst h1 h2;exact⟨by omega,by omega,by omega,.inr ⟨rfl,‹_›⟩⟩
     ·cases h
    ·split at h
     ·cases h
     ·split at h
      ·cases h
      ·injection h with h;injection h with h1 h2;subst h1 h2
       have h5:(gb l 0).toNat - 128<=4:=by
        have h6:¬132<bv (gb l 0):=by assumption
        unfold bv at h6;omega
       have h7:=QZ l ((gb l 0).toNat - 128)
       have h8:(256:Int) ^ ((gb l 0).toNat - 128)<=256 ^ 4:=by
        obtain h|h|h|h|h:(gb l 0).toNat - 128=0\/(gb l 0).toNat - 128=1\/(gb l 0).toNat - 128=2\/(gb l 0).toNat - 128=3\/(gb l 0).toNat - 128=4:=by omega
        all_goals rw [h];decide
       exact⟨by omega,by omega,by omega,.inl (X6 _ _)⟩
end
def j4k(L:List UInt8->Nat->Nat->Bool->Except Int Lst):Prop:=∀l d c o,c<=256->
 (∀r,L l d c o=.ok r->r.used<=l.length/\r.count<=256/\(o=false->r.used=l.length))/\(∀er,L l d c o=.error er->er≠0)
theorem zp{st:Bool}{L:List UInt8->Nat->Nat->Bool->Except Int Lst}(hL:j4k L){l:List UInt8}{d c:Nat}:
 (∀o,yL st L l d c=.ok o->2<=o.used/\o.used<=l.length/\o.count<=256/\qX o.tag=true)/\(∀er,yL st L l d c=.error er->er≠0):=by
 unfold yL
 cases ht:qg l with
 |error e=>exact⟨fun o h=>by simp at h,fun er h=>by simp at h;subst h;exact yE ht⟩
 |ok x=>
  obtain⟨t,k⟩:=x
  obtain⟨tv,k1,k2⟩:=zU ht
  simp only
  cases hs:jG (l.drop k) (jY t&& !st) st with
  |error e=>exact⟨fun o h=>by simp at h,fun er h=>by simp at h;subst h;exact qb hs⟩
  |ok y=>
   obtain⟨n,j⟩:=y
   obtain⟨j1,j2,n1,n2⟩:=xF hs
   simp only
   rw [List.length_drop]at j2
   by_cases h1:8<d
   ·simp only [iT h1]
    exact m03
   ·simp only [iF h1]
    by_cases h2:256<c+1
    ·simp only [iT h2]
     exact m03
    ·simp only [iF h2]
     by_cases h3:((l.drop (k+j)).length:Int)<n
     ·simp only [iT h3]
      exact m03
     ·simp only [iF h3]
      rw [List.length_drop]at h3
      by_cases h4:n<0
      ·simp only [iT h4]
       obtain⟨g1,g2⟩:=hL (l.drop (k+j)) (d+1) (c+1) true (by omega)
       cases hr:L (l.drop (k+j)) (d+1) (c+1) true with
       |error e=>exact⟨fun o h=>by simp at h,fun er h=>by simp at h;subst h;exact g2 _ hr⟩
       |ok r=>
        obtain⟨u1,u2,_⟩:=g1 r hr
        rw [List.length_drop]at u1
        exact m33
      ·simp only [iF h4]
       by_cases h5:jY t=true
       ·simp only [iT h5]
        obtain⟨g1,g2⟩:=hL ((l.drop (k+j)).take n.toNat) (d+1) (c+1) false (by omega)
        cases hr:L ((l.drop (k+j)).take n.toNat) (d+1) (c+1) false with
        |error e=>exact⟨fun o h=>by simp at h,fun er h=>by simp at h;subst h;exact g2 _ hr⟩
        |ok r=>
         obtain⟨u1,u2,_⟩:=g1 r hr
         exact m33
       ·simp only [iF h5]
        exact⟨fun o h=>by simp at h;subst h;exact⟨by simp only;omega,by simp only;omega,by simp only;omega,tv⟩,fun er h=>by simp at h⟩
theorem Jt{l:List UInt8}{o:Bool}{u:Nat}(h:kj l o=some (.ok u)):u<=l.length/\(o=false->u=l.length):=by
 unfold kj at h
 cases o with
 |true=>
  simp only [iT]at h
  split at h
  ·cases h
  ·split at h
   ·injection h with h;injection h with h;subst h
    rename_i h1 h2
    refine⟨?_,fun h=>by cases h⟩
    rcases Nat.lt_or_ge 1 l.length with h3|h3
    ·omega
    ·exact absurd (by rcases Nat.eq_zero_or_pos l.length with h4|h4;exact .inl h4;exact .inr ⟨h2.1,by omega⟩) h1
   ·cases h
 |false=>
  simp at h
  exact⟨by omega,fun _=>by have:=h.1;rw [this]at h |-;simp;omega⟩
theorem Xq{l:List UInt8}{o:Bool}{er:Int}(h:kj l o=some (.error er)):er≠0:=by
 unfold kj at h
 split at h
 ·split at h
  ·injection h with h;injection h with h;omega
  ·split at h<;>cases h
 ·split at h<;>cases h
theorem jP(st:Bool)(n:Nat):j4k (jh st n):=by
 induction n with
 |zero=>
  intro l d c o hc
  rw [jh]
  cases hh:kj l o with
  |none=>exact⟨fun r h=>by simp at h,fun er h=>by simp at h;omega⟩
  |some x=>
   exact m1u
 |succ n ih=>
  intro l d c o hc
  rw [jh]
  cases hh:kj l o with
  |some x=>
   exact m1u
  |none=>
   simp only
   obtain⟨s1,s2⟩:=zp (st:=st) ih (l:=l) (d:=d) (c:=c)
   cases ho:yL st (jh st n) l d c with
   |error e=>exact⟨fun r h=>by simp at h,fun er h=>by simp at h;subst h;exact s2 _ ho⟩
   |ok x=>
    obtain⟨x1,x2,x3,_⟩:=s1 x ho
    simp only
    obtain⟨g1,g2⟩:=ih (l.drop x.used) d x.count o x3
    cases hr:jh st n (l.drop x.used) d x.count o with
    |error e=>exact⟨fun r h=>by simp at h,fun er h=>by simp at h;subst h;exact g2 _ hr⟩
    |ok r=>
     obtain⟨u1,u2,u3⟩:=g1 r hr
     rw [List.length_drop]at u1 u3
     exact⟨fun q h=>by simp at h;subst h;exact⟨by simp only;omega,u2,fun e=>by have:=u3 e;simp only;omega⟩,fun er h=>by simp at h⟩
def Jn(f:Nat)(n:Nat)(opn:Bool):Prop:=∀(B:List UInt8) (bb bo bc p a e d c:Nat) (st:Bool) (w:World),
 BsS w (·≠p) (.slice (some ⟨bb,bo,none⟩) B.length bc) B->e<=B.length->B.length<=4096->Rd w p (.slice (some ⟨bb,bo,none⟩) B.length bc) a st c->a<=e->e - a<=n->d<=9->c<=256->
 Calls Tryz.prog f #[.pointer (some ⟨p,0,none⟩),.int .i64 e,.int .i64 d] w (ListOut (jh st n (rst B a e) d c opn) w p (.slice (some ⟨bb,bo,none⟩) B.length bc) a st)
def j7e(n:Nat):Prop:=∀(B:List UInt8) (bb bo bc p a e d c:Nat) (st:Bool) (w:World),
 BsS w (·≠p) (.slice (some ⟨bb,bo,none⟩) B.length bc) B->e<=B.length->B.length<=4096->Rd w p (.slice (some ⟨bb,bo,none⟩) B.length bc) a st c->a<=e->e - a<=n+1->d<=9->c<=256->
 Calls Tryz.prog 136 #[.pointer (some ⟨p,0,none⟩),.int .i64 e,.int .i64 d] w (JD (kP st n (rst B a e) d c) w p (.slice (some ⟨bb,bo,none⟩) B.length bc) a st)
theorem Kp{t:Int}(h:qX t=true):kB t:=by have:=J8 h;exact⟨by omega,by omega⟩
abbrev j21(w wi:World)(t:Int)(vv kv:Value):World:=((wi.setCell ⟨w.heap.size,0,none⟩ (.int .i64 t)).setCell ⟨w.heap.size,1,none⟩ vv).setCell ⟨w.heap.size,2,none⟩ kv
section
variable{w wi:World}{p:Nat}{bv:Value}{a:Nat}{st:Bool}{c:Nat}(h:OSt w wi p bv a st c)
include w wi p bv a st c h
theorem OSt.cnt:OSt w (wi.setCell ⟨p,3,none⟩ (.int .i64 ((c:Int)+1))) p bv a st (c+1):=
 h.step (h.1.cnt (c+1) _ (by omega)) (jb (World.grownBy.refl wi _) (.inl rfl) _)
theorem OSt.put(n:Nat)(z:Int)(hz:z=n):OSt w (wi.setCell ⟨p,1,none⟩ (.int .i64 z)) p bv n st c:=
 h.step (h.1.at_ n z hz) (jb (World.grownBy.refl wi _) (.inl rfl) _)
theorem OSt.draws(n:Nat):OSt w (wi.drewN n) p bv a st c:=⟨h.1,jA h.2.1 n,h.2.2.1,h.2.2.2⟩
theorem OSt.alloc(o:Obj):OSt w (wi.alloc o) p bv a st c:=
 h.step ((Below.heap_alloc wi o p h.1.lt).trans h.1) (jT (World.grownBy.refl wi _) o)
theorem OSt.other{X:Nat}(hX:w.heap.size<X)(i:Nat)(v:Value):OSt w (wi.setCell ⟨X,i,none⟩ v) p bv a st c:=by
 have hp:=h.2.2.2
 exact⟨(iO (show p≠X by omega)).trans h.1,jb h.2.1 (.inr (Nat.le_of_lt hX)) _,(iO (show w.heap.size≠X by omega)).trans h.2.2.1,hp⟩
theorem OSt.lt:w.heap.size<wi.heap.size:=(iG h.2.2.1)
theorem OSt.finish(t:Int)(vv kv:Value):Rd (j21 w wi t vv kv) p bv a st c/\w.grownBy (j21 w wi t vv kv) (some p):=by
 have hp:=h.2.2.2
 have hne:p≠w.heap.size:=by omega
 refine⟨?_,jb (jb (jb h.2.1 (.inr iL) _) (.inr iL) _) (.inr iL) _⟩
 exact((iO hne).trans ((iO hne).trans (iO hne))).trans h.1
theorem OSt.finc(t:Int)(vv kv:Value):
 (j21 w wi t vv kv).cell? ⟨w.heap.size,0,none⟩=some (.int .i64 t)/\(j21 w wi t vv kv).cell? ⟨w.heap.size,1,none⟩=some vv/\(j21 w wi t vv kv).cell? ⟨w.heap.size,2,none⟩=some kv:=by
 have h1:=xY (i:=2) (xY (i:=1) (xY (i:=0) h.2.2.1 (.int .i64 t)) vv) kv
 refine⟨?_,?_,?_⟩<;>(rw [cell_of_row _ _ _ _ _ _ h1]<;>rfl)
end
theorem OSt.no{w wi:World}{p:Nat}{bv:Value}{a a0:Nat}{st:Bool}{c:Nat}(h:OSt w wi p bv a st c)(t:Int){r:Except Int j3x}{er:Int}(hr:r=.error er)(he:er≠0):
 JD r w p bv a0 st (.returned (.tuple #[.agg #[.int .i64 t,.slice none 0 0,.slice none 0 0],.int .i64 er])) (j21 w wi t (.slice none 0 0) (.slice none 0 0)):=by
 subst hr
 exact⟨he,⟨t,rfl⟩,⟨a,c,(h.finish t _ _).1⟩,(h.finish t _ _).2⟩
theorem Xn{w wi:World}(t:Int)(vv kv:Value){b:Nat}(hb:b≠w.heap.size):(j21 w wi t vv kv).heap[b]?=wi.heap[b]? :=
 (iO hb).trans ((iO hb).trans (iO hb))
theorem OSt.yes{w wi:World}{p:Nat}{bv:Value}{a a0:Nat}{st:Bool}{c:Nat}(h:OSt w wi p bv a st c){r:Except Int j3x}{o:j3x}{vv kv:Value}(hr:r=.ok o)(hv:BsS wi (fun b=>w.heap.size<b/\b<wi.heap.size) vv o.val)(hk:NsS wi (fun b=>w.heap.size<b/\b<wi.heap.size) kv o.kids)(hi:kB o.tag)(ha:a=a0+o.used)(hc:c=o.count):
 JD r w p bv a0 st (.returned (.tuple #[.agg #[.int .i64 o.tag,vv,kv],.int .i64 0])) (j21 w wi o.tag vv kv):=by
 subst hr ha hc
 have hs:(j21 w wi o.tag vv kv).heap.size=wi.heap.size:=by simp [World.setCell]
 exact⟨vv,kv,rfl,hv.keep fun b hb _=>⟨Xn _ _ _ (by omega),by omega,by omega⟩,hk.keep fun b hb _=>⟨Xn _ _ _ (by omega),by omega,by omega⟩,hi,(h.finish _ _ _).1,(h.finish _ _ _).2⟩
theorem NsS.nil0(w:World)(S:Nat->Prop):NsS w S (.slice none 0 0) .nil:=⟨none,0,rfl,Nat.le_refl _,by simp [maxLen],by simp [Ns.len],fun h=>by simp [Ns.len]at h⟩
theorem BsS.nil0(w:World)(S:Nat->Prop):BsS w S (.slice none 0 0) []:=⟨none,0,rfl,by simp,by simp,by simp,by simp⟩
theorem BsS.capOf{w:World}{S:Nat->Prop}{A:Option Addr}{n c:Nat}{l:List UInt8}(h:BsS w S (.slice A n c) l):n<=c/\c<=9223372036854775807:=by
 obtain⟨_,_,hv,h1,h2,_,_⟩:=h
 injection hv with _ e2 e3
 omega
theorem OSt.below{w wi wj:World}{p:Nat}{bv:Value}{a:Nat}{st:Bool}{c:Nat}(h:OSt w wi p bv a st c)(hb:Below wi.heap.size wi wj):OSt w wj p bv a st c:=
 h.step ((hb.block p h.1.lt).trans h.1) (jD hb _)
theorem j46{w:World}{S:Nat->Prop}{bb bo n bc:Nat}{B:List UInt8}(h:BsS w S (.slice (some ⟨bb,bo,none⟩) n bc) B)(g u:Nat)(hg:g+u<=B.length):
 BsS w S (.slice (if bc=g then some ⟨bb,bo,none⟩else some ⟨bb,bo+g,none⟩) (g+u - g) (bc - g)) (rst B g (g+u)):=by
 obtain⟨a,c,hv,h1,h2,h3,h4⟩:=h
 injection hv with ha hn hc
 subst ha hc hn
 have hl:(rst B g (g+u)).length=u:=by rw [jx hg];omega
 have hu:g+u - g=u:=by omega
 refine⟨_,bc - g,by rw [hl,hu],by rw [hl];omega,by omega,by rw [hl];omega,fun hp=> ?_⟩
 rw [hl]at hp
 obtain⟨b',off',e,hb,hcell⟩:=h4 (by omega)
 injection e with e
 injection e with e1 e2
 subst e1 e2
 rw [iF (by omega)]
 refine⟨bb,bo+g,rfl,hb,fun j hj=> ?_⟩
 rw [hl]at hj
 rw [Nat.add_assoc,hcell (g+j) (by omega),Je hg (by omega)]
theorem NsS.form2{w:World}{S:Nat->Prop}{v:Value}{l:Ns}(h:NsS w S v l):∃A c,v=.slice A l.len c:=by
 exact m07
theorem jO{w:World}{X:Nat}{a b c:Value}{t:TypeId}(h:w.heap[X]?=some (.cells #[a,b,c] t (0,0))):w.cell? ⟨X,0,none⟩=some a/\w.cell? ⟨X,1,none⟩=some b/\w.cell? ⟨X,2,none⟩=some c/\∀o,w.frozen? ⟨X,o,none⟩=false:=by
 refine⟨?_,?_,?_,fun o=>by simp [World.frozen?,h]⟩<;>(rw [cell_of_row _ _ _ _ _ _ h]<;>rfl)
theorem Uv(n:Nat):∀(B:List UInt8) (bb bo bc p a e d c:Nat) (st:Bool) (w:World),
 BsS w (·≠p) (.slice (some ⟨bb,bo,none⟩) B.length bc) B->e<=B.length->B.length<=4096->Rd w p (.slice (some ⟨bb,bo,none⟩) B.length bc) a st c->a<=e->e - a<=n+1->d<=9->c<=256->∀er,qg (rst B a e)=.error er->
 Calls Tryz.prog 136 #[.pointer (some ⟨p,0,none⟩),.int .i64 e,.int .i64 d] w (JD (kP st n (rst B a e) d c) w p (.slice (some ⟨bb,bo,none⟩) B.length bc) a st):=by
 intro B bb bo bc p a e d c st w hB he hB4 hr ha hn hd hc
 have S0:=OSt.start hr
 have HB:=iH hB
 have T:=QN B bb bo bc p a e c st (w.alloc (.cells #[.int .i64 0,.slice none 0 0,.slice none 0 0] 61)) (S0.bytes hB) he S0.1 ha
 have HS0:=iH S0
 clear S0 hB hr
 intro er ht
 rw [ht]at T
 have n0:(er != 0)=true:=by simp [yE ht]
 have E:Hid (kP st n (rst B a e) d c=.error er):=by unfold kP yL;rw [ht]<;>rfl
 have HT:=iH T;have N0:=iH (yE ht)
 clear T ht
 go_enter Tryz.func136,Tryz.ntmps136
 go_wp2_with(go_at_call 144;refine HT.out.mono ?_;intro e1 w1 h1;obtain⟨rfl,⟨a1,hr1⟩,hg1⟩:=NumOut.err h1;have S1:=iH (HS0.out.step hr1 hg1);clear h1 hr1 hg1;obtain⟨z0,z1,z2⟩:=S1.out.zc;have f0:=S1.out.zf 0;have f1:=S1.out.zf 1;have f2:=S1.out.zf 2)
 obtain⟨y0,y1,y2⟩:=S1.out.finc 0 (.slice none 0 0) (.slice none 0 0)
 exact bodyPost_ret (v:=.tuple #[.agg #[.int .i64 0,.slice none 0 0,.slice none 0 0],.int .i64 er]) (by simp [results,Tryz.results136,go_sem,y0,y1,y2]) rfl (S1.out.no 0 E.out N0.out)
theorem ZE(n:Nat)(_:Jn 146 n true)(_:Jn 112 n false):∀(B:List UInt8) (bb bo bc p a e d c:Nat) (st:Bool) (w:World),
 BsS w (·≠p) (.slice (some ⟨bb,bo,none⟩) B.length bc) B->e<=B.length->B.length<=4096->Rd w p (.slice (some ⟨bb,bo,none⟩) B.length bc) a st c->a<=e->e - a<=n+1->d<=9->c<=256->∀t k,qg (rst B a e)=.ok (t,k)->jY t=false->
 Calls Tryz.prog 136 #[.pointer (some ⟨p,0,none⟩),.int .i64 e,.int .i64 d] w (JD (kP st n (rst B a e) d c) w p (.slice (some ⟨bb,bo,none⟩) B.length bc) a st):=by
 intro B bb bo bc p a e d c st w hB he hB4 hr ha hn hd hc
 have S0:=OSt.start hr
 have HB:=iH hB
 have T:=QN B bb bo bc p a e c st (w.alloc (.cells #[.int .i64 0,.slice none 0 0,.slice none 0 0] 61)) (S0.bytes hB) he S0.1 ha
 have HS0:=iH S0
 clear S0 hB hr
 intro t k ht htc
 rw [ht]at T
 obtain⟨tv,k1,k2⟩:=zU ht
 rw [jx he]at k2
 have hin:=Kp tv
 have HC:=iH (fun w=>yb t hin w)
 have HT:=iH T
 have HL:=fun(w1:World) (h1:BsS w1 (·≠p) (.slice (some ⟨bb,bo,none⟩) B.length bc) B) (h2:Rd w1 p (.slice (some ⟨bb,bo,none⟩) B.length bc) (a+k) st c)=>iH (QF B bb bo bc p (a+k) e c st false w1 h1 he h2 (by omega))
 rw [htc]at HC
 have hob:(jY t&& !st)=false:=by rw [htc]<;>rfl
 have HI:=iH hin;have TC:=iH htc
 clear T tv hin htc
 cases hs:jG (rst B (a+k) e) false st with
 |error er=>
  have E:Hid (kP st n (rst B a e) d c=.error er):=Xz ht (by rw [hob,jM];exact hs)
  exact mO
 |ok y=>
  obtain⟨m,j⟩:=y
  obtain⟨j1,j2,m1,m2⟩:=xF hs
  rw [jx he]at j2
  rw [hs]at HL
  have hs':jG ((rst B a e).drop k) (jY t&& !st) st=.ok (m,j):=by rw [hob,jM];exact hs
  have HT2:=iH ht;have HS2:=iH hs'
  clear hs ht hob hs'
  by_cases h8:8<d
  ·have E:Hid (kP st n (rst B a e) d c=.error 7):=XA HT2.out HS2.out h8
   exact mL
  ·by_cases h9:256<c+1
   ·have E:Hid (kP st n (rst B a e) d c=.error 2):=XB HT2.out HS2.out h8 h9
    exact mM
   ·by_cases h10:(e:Int) - ((a+k+j:Nat):Int)<m
    ·have E:Hid (kP st n (rst B a e) d c=.error 6):=XC HT2.out HS2.out h8 h9 (by rw [jM,jx he];omega)
     exact mN
    ·have h3':¬(((rst B a e).drop (k+j)).length:Int)<m:=by rw [jM,jx he];omega
     have H3:=iH h3';clear h3'
     have h11:m<=(e:Int) - (a+k+j):=by omega
     clear h10
     have m0:0<=m:=m2.elim id fun h=>by cases h.2
     have em:(m== -1)=false:=by simp;omega
     obtain⟨u,rfl⟩:=Int.eq_ofNat_of_zero_le m0
     clear m0 m2
     have hbc:=HB.out.capOf
     obtain⟨g,hg⟩:∃g,g=a+k+j:=⟨_,rfl⟩
     have hgu:g+u<=B.length:=by omega
     have b1:(0:Int)<=g:=by omega
     have b2:(g:Int)<=(g:Int)+u:=by omega
     have b3:(g:Int)+u<=bc:=by omega
     have HG:=iH hg;clear hg
     go_enter Tryz.func136,Tryz.ntmps136
     go_wp2_with(first
      |(go_at_call 144;refine HT.out.mono ?_;intro e1 w1 h1;obtain⟨rfl,hr1,hg1⟩:=NumOut.got h1;have S1:=iH (HS0.out.step hr1 hg1);clear h1 hr1 hg1;obtain⟨z0,z1,z2⟩:=S1.out.zc;have f0:=S1.out.zf 0;have f1:=S1.out.zf 1;have f2:=S1.out.zf 2;have r0:=S1.out.1.c0;have r1:=S1.out.1.c1;have r2:=S1.out.1.c2;have r3:=S1.out.1.c3;have q1:=S1.out.1.fr 1;have q3:=S1.out.1.fr 3)
      |(go_at_call 133;refine(HC.out _).mono ?_;rintro e w' ⟨rfl,rfl⟩)
      |(go_at_call 145;refine(HL _ (S1.out.bytes HB.out) S1.out.1).out.mono ?_;intro e2 w2 h2;obtain⟨rfl,hr2,hg2⟩:=NumOut.got h2;have S2:=iH (S1.out.step hr2 hg2);clear h2 hr2 hg2 z0 z1 z2 f0 f1 f2 r0 r1 r2 r3 q1 q3;obtain⟨z0,z1,z2⟩:=S2.out.zc;have f0:=S2.out.zf 0;have f1:=S2.out.zf 1;have f2:=S2.out.zf 2;have r0:=S2.out.1.c0;have r1:=S2.out.1.c1;have r2:=S2.out.1.c2;have r3:=S2.out.1.c3;have q1:=S2.out.1.fr 1;have q3:=S2.out.1.fr 3))
     have S3:=iH (S2.out.cnt.alloc (.cells #[.int .i64 t,.slice none 0 0,.slice none 0 0] 61))
     have X3:=iH (heap_alloc_new (w2.setCell ⟨p,3,none⟩ (.int .i64 ((c:Int)+1))) (.cells #[.int .i64 t,.slice none 0 0,.slice none 0 0] 61))
     obtain⟨w3,hw3⟩:∃w3,w3=(w2.setCell ⟨p,3,none⟩ (.int .i64 ((c:Int)+1))).alloc (.cells #[.int .i64 t,.slice none 0 0,.slice none 0 0] 61):=⟨_,rfl⟩
     have hX:(w2.setCell ⟨p,3,none⟩ (.int .i64 ((c:Int)+1))).heap.size=w2.heap.size:=by simp [World.setCell]
     rw [hX]at X3
     rw [<-hw3]at S3 X3 |-
     rw [<-HG.out]at S3
     have hlt2:=S2.out.lt
     clear hw3 hX z0 z1 z2 f0 f1 f2 r0 r1 r2 r3 q1 q3
     obtain⟨x0,x1,x2,xf⟩:=jO X3.out
     have xf1:=xf 1
     clear xf
     obtain⟨z0,z1,z2⟩:=S3.out.zc;have f0:=S3.out.zf 0;have f1:=S3.out.zf 1;have f2:=S3.out.zf 2;have r0:=S3.out.1.c0;have r1:=S3.out.1.c1;have r2:=S3.out.1.c2;have r3:=S3.out.1.c3;have q1:=S3.out.1.fr 1;have q3:=S3.out.1.fr 3
     refine wp_region_still_tail 15 (by kernel_rfl) (by kernel_rfl) ?_
     simp only [List.take_succ_cons,List.take_zero,List.drop_succ_cons,List.drop_zero]
     repeat(refine wpStill_step (fun K hK=> ?_);go_simp;(try go_bits);refine hK _ ?_;clear hK K)
     refine wpStill_nil ?_
     have hpN:=S3.out.2.2.2
     obtain⟨A,hA⟩:∃A,(if bc=g then some (⟨bb,bo,none⟩:Addr)else some ⟨bb,bo+g,none⟩)=A:=⟨_,rfl⟩
     have CB:=j46 (S3.out.bytes HB.out) g u hgu
     rw [hA,Nat.add_sub_cancel_left]at CB
     rw [hA,Nat.add_sub_cancel_left]
     have CB:=iH CB
     clear hA
     have D4:=iH (S3.out.draws 1)
     go_wp2_with(go_at_call 80;go_must(refine(kR _ (rst B g (g+u)) w3.drew (CB.out.keep fun b _ hl=>⟨rfl,hl⟩)).mono ?_;rintro e4 w4 ⟨v4,rfl,hown4,hb4⟩;obtain⟨a4,k4,rfl⟩:=OwnB.form hown4;have S4:=iH (D4.out.below hb4);have X4:=iH ((hb4.block _ (iG X3.out)).trans X3.out);have Hown4:=iH hown4;have Hb4:=iH hb4;clear hown4 hb4 z0 z1 z2 f0 f1 f2 r0 r1 r2 r3 q1 q3 x0 x1 x2 xf1;obtain⟨x0,x1,x2,xf⟩:=jO X4.out;have xf1:=xf 1;clear xf;obtain⟨z0,z1,z2⟩:=S4.out.zc;have f0:=S4.out.zf 0;have f1:=S4.out.zf 1;have f2:=S4.out.zf 2;have r0:=S4.out.1.c0;have r1:=S4.out.1.c1;have r2:=S4.out.1.c2;have r3:=S4.out.1.c3;have q1:=S4.out.1.fr 1;have q3:=S4.out.1.fr 3))
     have S5:=S4.out.other hlt2 1 (.slice a4 (rst B g (g+u)).length k4)
     have S6:=S5.put (g+u) ((g:Int)+u) (by omega)
     obtain⟨y0,y1,y2⟩:=S6.finc t (.slice a4 (rst B g (g+u)).length k4) (.slice none 0 0)
     have E:kP st n (rst B a e) d c=.ok ⟨t,rst B g (g+u),.nil,k+j+u,c+1⟩:=by
      rw [VZ HT2.out HS2.out h8 h9 (by have:=H3.out;omega) (by omega) (by rw [TC.out];decide),jM,yy _ _ _ _ (by have:=HG.out;simp;omega),Int.toNat_natCast,HG.out,<-Nat.add_assoc]
     have hX3:=(iG X3.out)
     exact bodyPost_ret (v:=.tuple #[.agg #[.int .i64 t,.slice a4 (rst B g (g+u)).length k4,.slice none 0 0],.int .i64 0]) (by simp [results,Tryz.results136,go_sem,y0,y1,y2]) rfl
      (S6.yes E ((BsS.of_own Hown4.out (by rw [jx hgu];omega)).keep fun b hb _=>⟨(iO (by have:w3.heap.size<=b:=hb.1;show b≠p;omega)).trans (iO (by have:w3.heap.size<=b:=hb.1;show b≠w2.heap.size;omega)),by have:w3.heap.size<=b:=hb.1;omega,by simpa [World.setCell]using hb.2⟩) (NsS.nil0 _ _) HI.out (by have:=HG.out;simp only;omega) rfl)
theorem Qt(n:Nat)(_:Jn 146 n true)(ho:Jn 112 n false):∀(B:List UInt8) (bb bo bc p a e d c:Nat) (w:World),
 BsS w (·≠p) (.slice (some ⟨bb,bo,none⟩) B.length bc) B->e<=B.length->B.length<=4096->Rd w p (.slice (some ⟨bb,bo,none⟩) B.length bc) a true c->a<=e->e - a<=n+1->d<=9->c<=256->∀t k,qg (rst B a e)=.ok (t,k)->jY t=true->
 Calls Tryz.prog 136 #[.pointer (some ⟨p,0,none⟩),.int .i64 e,.int .i64 d] w (JD (kP true n (rst B a e) d c) w p (.slice (some ⟨bb,bo,none⟩) B.length bc) a true):=by
 intro B bb bo bc p a e d c w hB he hB4 hr ha hn hd hc
 have S0:=OSt.start hr
 have HB:=iH hB
 have T:=QN B bb bo bc p a e c true (w.alloc (.cells #[.int .i64 0,.slice none 0 0,.slice none 0 0] 61)) (S0.bytes hB) he S0.1 ha
 have HS0:=iH S0
 clear S0 hB hr
 intro t k ht htc
 rw [ht]at T
 obtain⟨tv,k1,k2⟩:=zU ht
 rw [jx he]at k2
 have hin:=Kp tv
 have HC:=iH (fun w=>yb t hin w)
 have HT:=iH T
 have HL:=fun(w1:World) (h1:BsS w1 (·≠p) (.slice (some ⟨bb,bo,none⟩) B.length bc) B) (h2:Rd w1 p (.slice (some ⟨bb,bo,none⟩) B.length bc) (a+k) true c)=>iH (QF B bb bo bc p (a+k) e c true false w1 h1 he h2 (by omega))
 rw [htc]at HC
 have hob:(jY t&& !true)=false:=by rw [htc]<;>rfl
 have HI:=iH hin;have TC:=iH htc
 clear T tv hin htc
 cases hs:jG (rst B (a+k) e) false true with
 |error er=>
  have E:Hid (kP true n (rst B a e) d c=.error er):=Xz ht (by rw [hob,jM];exact hs)
  exact mO
 |ok y=>
  obtain⟨m,j⟩:=y
  obtain⟨j1,j2,m1,m2⟩:=xF hs
  rw [jx he]at j2
  rw [hs]at HL
  have hs':jG ((rst B a e).drop k) (jY t&& !true) true=.ok (m,j):=by rw [hob,jM];exact hs
  have HT2:=iH ht;have HS2:=iH hs'
  clear hs ht hob hs'
  by_cases h8:8<d
  ·have E:Hid (kP true n (rst B a e) d c=.error 7):=XA HT2.out HS2.out h8
   exact mL
  ·by_cases h9:256<c+1
   ·have E:Hid (kP true n (rst B a e) d c=.error 2):=XB HT2.out HS2.out h8 h9
    exact mM
   ·by_cases h10:(e:Int) - ((a+k+j:Nat):Int)<m
    ·have E:Hid (kP true n (rst B a e) d c=.error 6):=XC HT2.out HS2.out h8 h9 (by rw [jM,jx he];omega)
     exact mN
    ·have h3':¬(((rst B a e).drop (k+j)).length:Int)<m:=by rw [jM,jx he];omega
     have H3:=iH h3';clear h3'
     have h11:m<=(e:Int) - (a+k+j):=by omega
     clear h10
     have m0:0<=m:=m2.elim id fun h=>by cases h.2
     have em:(m== -1)=false:=by simp;omega
     obtain⟨u,rfl⟩:=Int.eq_ofNat_of_zero_le m0
     clear m0 m2
     obtain⟨g,hg⟩:∃g,g=a+k+j:=⟨_,rfl⟩
     have hgu:g+u<=e:=by omega
     have b1:(g:Int)+u<=9223372036854775807:=by omega
     have HG:=iH hg
     have hl0:=jP true n (rst B g (g+u)) (d+1) (c+1) false (by omega)
     have HF:=fun(w3:World) (h1:BsS w3 (·≠p) (.slice (some ⟨bb,bo,none⟩) B.length bc) B) (h2:Rd w3 p (.slice (some ⟨bb,bo,none⟩) B.length bc) g true (c+1))=>
      iH (show Calls Tryz.prog 112 #[.pointer (some ⟨p,0,none⟩),.int .i64 ((g:Int)+u),.int .i64 ((d:Int)+1)] w3 (ListOut (jh true n (rst B g (g+u)) (d+1) (c+1) false) w3 p (.slice (some ⟨bb,bo,none⟩) B.length bc) g true) from
       ho B bb bo bc p g (g+u) (d+1) (c+1) true w3 h1 (by omega) hB4 h2 (by omega) (by omega) (by omega) (by omega))
     clear hg
     cases hl:jh true n (rst B g (g+u)) (d+1) (c+1) false with
     |error er=>
      have E:Hid (kP true n (rst B a e) d c=.error er):=Yv HT2.out HS2.out h8 h9 (by have:=H3.out;omega) (by omega) TC.out (by rw [jM,yy _ _ _ _ (by have:=HG.out;simp;omega),Int.toNat_natCast,<-Nat.add_assoc,<-HG.out];exact hl)
      exact m0b
     |ok r=>
      have E:Hid (kP true n (rst B a e) d c=.ok ⟨t,[],r.list,k+j+u,r.count⟩):=Ut HT2.out HS2.out h8 h9 (by have:=H3.out;omega) (by omega) TC.out (by rw [jM,yy _ _ _ _ (by have:=HG.out;simp;omega),Int.toNat_natCast,<-Nat.add_assoc,<-HG.out];exact hl)
      exact m09
section
variable(n:Nat)(hk:Jn 146 n true)(ho:Jn 112 n false)
include n hk ho
theorem ZD:∀(B:List UInt8) (bb bo bc p a e d c:Nat) (w:World),
 BsS w (·≠p) (.slice (some ⟨bb,bo,none⟩) B.length bc) B->e<=B.length->B.length<=4096->Rd w p (.slice (some ⟨bb,bo,none⟩) B.length bc) a false c->a<=e->e - a<=n+1->d<=9->c<=256->∀t k,qg (rst B a e)=.ok (t,k)->jY t=true->
 Calls Tryz.prog 136 #[.pointer (some ⟨p,0,none⟩),.int .i64 e,.int .i64 d] w (JD (kP false n (rst B a e) d c) w p (.slice (some ⟨bb,bo,none⟩) B.length bc) a false):=by
 intro B bb bo bc p a e d c w hB he hB4 hr ha hn hd hc
 have S0:=OSt.start hr
 have HB:=iH hB
 have T:=QN B bb bo bc p a e c false (w.alloc (.cells #[.int .i64 0,.slice none 0 0,.slice none 0 0] 61)) (S0.bytes hB) he S0.1 ha
 have HS0:=iH S0
 clear S0 hB hr
 intro t k ht htc
 rw [ht]at T
 obtain⟨tv,k1,k2⟩:=zU ht
 rw [jx he]at k2
 have hin:=Kp tv
 have HC:=iH (fun w=>yb t hin w)
 have HT:=iH T
 have HL:=fun(w1:World) (h1:BsS w1 (·≠p) (.slice (some ⟨bb,bo,none⟩) B.length bc) B) (h2:Rd w1 p (.slice (some ⟨bb,bo,none⟩) B.length bc) (a+k) false c)=>iH (QF B bb bo bc p (a+k) e c false true w1 h1 he h2 (by omega))
 rw [htc]at HC
 have hob:(jY t&& !false)=true:=by rw [htc]<;>rfl
 have HI:=iH hin;have TC:=iH htc
 clear T tv hin htc
 cases hs:jG (rst B (a+k) e) true false with
 |error er=>
  have E:Hid (kP false n (rst B a e) d c=.error er):=Xz ht (by rw [hob,jM];exact hs)
  exact mO
 |ok y=>
  obtain⟨m,j⟩:=y
  obtain⟨j1,j2,m1,m2⟩:=xF hs
  rw [jx he]at j2
  rw [hs]at HL
  have hs':jG ((rst B a e).drop k) (jY t&& !false) false=.ok (m,j):=by rw [hob,jM];exact hs
  have HT2:=iH ht;have HS2:=iH hs'
  clear hs ht hob hs'
  by_cases h8:8<d
  ·have E:Hid (kP false n (rst B a e) d c=.error 7):=XA HT2.out HS2.out h8
   exact mL
  ·by_cases h9:256<c+1
   ·have E:Hid (kP false n (rst B a e) d c=.error 2):=XB HT2.out HS2.out h8 h9
    exact mM
   ·by_cases h10:(e:Int) - ((a+k+j:Nat):Int)<m
    ·have E:Hid (kP false n (rst B a e) d c=.error 6):=XC HT2.out HS2.out h8 h9 (by rw [jM,jx he];omega)
     exact mN
    ·have h3':¬(((rst B a e).drop (k+j)).length:Int)<m:=by rw [jM,jx he];omega
     have H3:=iH h3';clear h3'
     have h11:m<=(e:Int) - (a+k+j):=by omega
     clear h10
     by_cases hm:m<0
     ·skip
      have em:(m== -1)=true:=by simp;omega
      obtain⟨g,hg⟩:∃g,g=a+k+j:=⟨_,rfl⟩
      have hge:g<=e:=by omega
      have HG:=iH hg
      have hl0:=jP false n (rst B g e) (d+1) (c+1) true (by omega)
      have HF:=fun(w3:World) (h1:BsS w3 (·≠p) (.slice (some ⟨bb,bo,none⟩) B.length bc) B) (h2:Rd w3 p (.slice (some ⟨bb,bo,none⟩) B.length bc) g false (c+1))=>
       iH (show Calls Tryz.prog 146 #[.pointer (some ⟨p,0,none⟩),.int .i64 (e:Int),.int .i64 ((d:Int)+1)] w3 (ListOut (jh false n (rst B g e) (d+1) (c+1) true) w3 p (.slice (some ⟨bb,bo,none⟩) B.length bc) g false) from
        hk B bb bo bc p g e (d+1) (c+1) false w3 h1 (by omega) hB4 h2 (by omega) (by omega) (by omega) (by omega))
      clear hg
      cases hl:jh false n (rst B g e) (d+1) (c+1) true with
      |error er=>
       have E:Hid (kP false n (rst B a e) d c=.error er):=VY HT2.out HS2.out h8 h9 (by have:=H3.out;omega) hm (by rw [jM,<-Nat.add_assoc,<-HG.out];exact hl)
       have ner:er≠0:=hl0.2 er hl
       have n0:(er != 0)=true:=by simp [ner]
       have N0:=iH ner
       rw [hl]at HF
       clear hl hl0 ner
       go_enter Tryz.func136,Tryz.ntmps136
       go_upto_region 19 with (first
        |(go_at_call 144;refine HT.out.mono ?_;intro e1 w1 h1;obtain⟨rfl,hr1,hg1⟩:=NumOut.got h1;have S1:=iH (HS0.out.step hr1 hg1);clear h1 hr1 hg1;obtain⟨z0,z1,z2⟩:=S1.out.zc;have f0:=S1.out.zf 0;have f1:=S1.out.zf 1;have f2:=S1.out.zf 2;have r0:=S1.out.1.c0;have r1:=S1.out.1.c1;have r2:=S1.out.1.c2;have r3:=S1.out.1.c3;have q1:=S1.out.1.fr 1;have q3:=S1.out.1.fr 3)
        |(go_at_call 133;refine(HC.out _).mono ?_;rintro e w' ⟨rfl,rfl⟩)
        |(go_at_call 145;refine(HL _ (S1.out.bytes HB.out) S1.out.1).out.mono ?_;intro e2 w2 h2;obtain⟨rfl,hr2,hg2⟩:=NumOut.got h2;have S2:=iH (S1.out.step hr2 hg2);clear h2 hr2 hg2 z0 z1 z2 f0 f1 f2 r0 r1 r2 r3 q1 q3;obtain⟨z0,z1,z2⟩:=S2.out.zc;have f0:=S2.out.zf 0;have f1:=S2.out.zf 1;have f2:=S2.out.zf 2;have r0:=S2.out.1.c0;have r1:=S2.out.1.c1;have r2:=S2.out.1.c2;have r3:=S2.out.1.c3;have q1:=S2.out.1.fr 1;have q3:=S2.out.1.fr 3))
       have S3:=iH (S2.out.cnt.alloc (.cells #[.int .i64 t,.slice none 0 0,.slice none 0 0] 61))
       have X3:=iH (heap_alloc_new (w2.setCell ⟨p,3,none⟩ (.int .i64 ((c:Int)+1))) (.cells #[.int .i64 t,.slice none 0 0,.slice none 0 0] 61))
       obtain⟨w3,hw3⟩:∃w3,w3=(w2.setCell ⟨p,3,none⟩ (.int .i64 ((c:Int)+1))).alloc (.cells #[.int .i64 t,.slice none 0 0,.slice none 0 0] 61):=⟨_,rfl⟩
       have hX:(w2.setCell ⟨p,3,none⟩ (.int .i64 ((c:Int)+1))).heap.size=w2.heap.size:=by simp [World.setCell]
       rw [hX]at X3
       rw [<-hw3]at S3 X3 |-
       rw [<-HG.out]at S3
       have hlt2:=S2.out.lt
       have hpN:=S3.out.2.2.2
       clear hw3 hX z0 z1 z2 f0 f1 f2 r0 r1 r2 r3 q1 q3
       obtain⟨x0,x1,x2,xf⟩:=jO X3.out
       have xf1:=xf 2
       clear xf
       obtain⟨z0,z1,z2⟩:=S3.out.zc;have f0:=S3.out.zf 0;have f1:=S3.out.zf 1;have f2:=S3.out.zf 2;have r0:=S3.out.1.c0;have r1:=S3.out.1.c1;have r2:=S3.out.1.c2;have r3:=S3.out.1.c3;have q1:=S3.out.1.fr 1;have q3:=S3.out.1.fr 3
       go_wp2_with(go_at_call 146;refine(HF _ (S3.out.bytes HB.out) S3.out.1).out.mono ?_;intro e4 w4 h4;obtain⟨_,rfl,⟨a4,c4,hr4⟩,hg4⟩:=h4;have S4:=iH (S3.out.step hr4 hg4);have X4:=iH ((hg4.block _ (iG X3.out) (by intro e;injection e with e;omega)).trans X3.out);clear hr4 hg4 z0 z1 z2 f0 f1 f2 r0 r1 r2 r3 q1 q3 x0 x1 x2 xf1;obtain⟨x0,x1,x2,xf⟩:=jO X4.out;have xf1:=xf 2;clear xf;obtain⟨z0,z1,z2⟩:=S4.out.zc;have f0:=S4.out.zf 0;have f1:=S4.out.zf 1;have f2:=S4.out.zf 2;have r0:=S4.out.1.c0;have r1:=S4.out.1.c1;have r2:=S4.out.1.c2;have r3:=S4.out.1.c3;have q1:=S4.out.1.fr 1;have q3:=S4.out.1.fr 3)
       have S5:=S4.out.other hlt2 2 (.slice none 0 0)
       obtain⟨y0,y1,y2⟩:=S5.finc t (.slice none 0 0) (.slice none 0 0)
       exact bodyPost_ret (v:=.tuple #[.agg #[.int .i64 t,.slice none 0 0,.slice none 0 0],.int .i64 er]) (by simp [results,Tryz.results136,go_sem,y0,y1,y2]) rfl (S5.no t E.out N0.out)
      |ok r=>
       have E:Hid (kP false n (rst B a e) d c=.ok ⟨t,[],r.list,k+j+r.used,r.count⟩):=j2r HT2.out HS2.out h8 h9 (by have:=H3.out;omega) hm (by rw [jM,<-Nat.add_assoc,<-HG.out];exact hl)
       have hu:=hl0.1 r hl
       have HU:=iH hu
       clear hu
       rw [hl]at HF
       clear hl hl0
       go_enter Tryz.func136,Tryz.ntmps136
       go_upto_region 19 with (first
        |(go_at_call 144;refine HT.out.mono ?_;intro e1 w1 h1;obtain⟨rfl,hr1,hg1⟩:=NumOut.got h1;have S1:=iH (HS0.out.step hr1 hg1);clear h1 hr1 hg1;obtain⟨z0,z1,z2⟩:=S1.out.zc;have f0:=S1.out.zf 0;have f1:=S1.out.zf 1;have f2:=S1.out.zf 2;have r0:=S1.out.1.c0;have r1:=S1.out.1.c1;have r2:=S1.out.1.c2;have r3:=S1.out.1.c3;have q1:=S1.out.1.fr 1;have q3:=S1.out.1.fr 3)
        |(go_at_call 133;refine(HC.out _).mono ?_;rintro e w' ⟨rfl,rfl⟩)
        |(go_at_call 145;refine(HL _ (S1.out.bytes HB.out) S1.out.1).out.mono ?_;intro e2 w2 h2;obtain⟨rfl,hr2,hg2⟩:=NumOut.got h2;have S2:=iH (S1.out.step hr2 hg2);clear h2 hr2 hg2 z0 z1 z2 f0 f1 f2 r0 r1 r2 r3 q1 q3;obtain⟨z0,z1,z2⟩:=S2.out.zc;have f0:=S2.out.zf 0;have f1:=S2.out.zf 1;have f2:=S2.out.zf 2;have r0:=S2.out.1.c0;have r1:=S2.out.1.c1;have r2:=S2.out.1.c2;have r3:=S2.out.1.c3;have q1:=S2.out.1.fr 1;have q3:=S2.out.1.fr 3))
       have S3:=iH (S2.out.cnt.alloc (.cells #[.int .i64 t,.slice none 0 0,.slice none 0 0] 61))
       have X3:=iH (heap_alloc_new (w2.setCell ⟨p,3,none⟩ (.int .i64 ((c:Int)+1))) (.cells #[.int .i64 t,.slice none 0 0,.slice none 0 0] 61))
       obtain⟨w3,hw3⟩:∃w3,w3=(w2.setCell ⟨p,3,none⟩ (.int .i64 ((c:Int)+1))).alloc (.cells #[.int .i64 t,.slice none 0 0,.slice none 0 0] 61):=⟨_,rfl⟩
       have hX:(w2.setCell ⟨p,3,none⟩ (.int .i64 ((c:Int)+1))).heap.size=w2.heap.size:=by simp [World.setCell]
       rw [hX]at X3
       rw [<-hw3]at S3 X3 |-
       rw [<-HG.out]at S3
       have hlt2:=S2.out.lt
       have hpN:=S3.out.2.2.2
       clear hw3 hX z0 z1 z2 f0 f1 f2 r0 r1 r2 r3 q1 q3
       obtain⟨x0,x1,x2,xf⟩:=jO X3.out
       have xf1:=xf 2
       clear xf
       obtain⟨z0,z1,z2⟩:=S3.out.zc;have f0:=S3.out.zf 0;have f1:=S3.out.zf 1;have f2:=S3.out.zf 2;have r0:=S3.out.1.c0;have r1:=S3.out.1.c1;have r2:=S3.out.1.c2;have r3:=S3.out.1.c3;have q1:=S3.out.1.fr 1;have q3:=S3.out.1.fr 3
       go_wp2_with(go_at_call 146;refine(HF _ (S3.out.bytes HB.out) S3.out.1).out.mono ?_;intro e4 w4 h4;obtain⟨v4,rfl,hv4,hr4,hg4⟩:=h4;obtain⟨va,vc,rfl⟩:=NsS.form2 hv4;have Hv4:=iH hv4;have S4:=iH (S3.out.step hr4 hg4);have X4:=iH ((hg4.block _ (iG X3.out) (by intro e;injection e with e;omega)).trans X3.out);clear hv4 hr4 hg4 z0 z1 z2 f0 f1 f2 r0 r1 r2 r3 q1 q3 x0 x1 x2 xf1;obtain⟨x0,x1,x2,xf⟩:=jO X4.out;have xf1:=xf 2;clear xf;obtain⟨z0,z1,z2⟩:=S4.out.zc;have f0:=S4.out.zf 0;have f1:=S4.out.zf 1;have f2:=S4.out.zf 2;have r0:=S4.out.1.c0;have r1:=S4.out.1.c1;have r2:=S4.out.1.c2;have r3:=S4.out.1.c3;have q1:=S4.out.1.fr 1;have q3:=S4.out.1.fr 3)
       have S5:=S4.out.other hlt2 2 (.slice va r.list.len vc)
       obtain⟨y0,y1,y2⟩:=S5.finc t (.slice none 0 0) (.slice va r.list.len vc)
       have hX3:=(iG X3.out)
       exact bodyPost_ret (v:=.tuple #[.agg #[.int .i64 t,.slice none 0 0,.slice va r.list.len vc],.int .i64 0]) (by simp [results,Tryz.results136,go_sem,y0,y1,y2]) rfl
        (S5.yes E.out (BsS.nil0 _ _) (Hv4.out.keep fun b hb _=>⟨iO (by have:=hb.1;show b≠w2.heap.size;omega),by have:=hb.1;omega,by simpa [World.setCell]using hb.2⟩) HI.out (by have:=HG.out;simp only;omega) rfl)
     ·have m0:0<=m:=by omega
      have em:(m== -1)=false:=by simp;omega
      obtain⟨u,rfl⟩:=Int.eq_ofNat_of_zero_le m0
      clear m0 m2
      obtain⟨g,hg⟩:∃g,g=a+k+j:=⟨_,rfl⟩
      have hgu:g+u<=e:=by omega
      have b1:(g:Int)+u<=9223372036854775807:=by omega
      have HG:=iH hg
      have hl0:=jP false n (rst B g (g+u)) (d+1) (c+1) false (by omega)
      have HF:=fun(w3:World) (h1:BsS w3 (·≠p) (.slice (some ⟨bb,bo,none⟩) B.length bc) B) (h2:Rd w3 p (.slice (some ⟨bb,bo,none⟩) B.length bc) g false (c+1))=>
       iH (show Calls Tryz.prog 112 #[.pointer (some ⟨p,0,none⟩),.int .i64 ((g:Int)+u),.int .i64 ((d:Int)+1)] w3 (ListOut (jh false n (rst B g (g+u)) (d+1) (c+1) false) w3 p (.slice (some ⟨bb,bo,none⟩) B.length bc) g false) from
        ho B bb bo bc p g (g+u) (d+1) (c+1) false w3 h1 (by omega) hB4 h2 (by omega) (by omega) (by omega) (by omega))
      clear hg
      cases hl:jh false n (rst B g (g+u)) (d+1) (c+1) false with
      |error er=>
       have E:Hid (kP false n (rst B a e) d c=.error er):=Yv HT2.out HS2.out h8 h9 (by have:=H3.out;omega) (by omega) TC.out (by rw [jM,yy _ _ _ _ (by have:=HG.out;simp;omega),Int.toNat_natCast,<-Nat.add_assoc,<-HG.out];exact hl)
       exact m0b
      |ok r=>
       have E:Hid (kP false n (rst B a e) d c=.ok ⟨t,[],r.list,k+j+u,r.count⟩):=Ut HT2.out HS2.out h8 h9 (by have:=H3.out;omega) (by omega) TC.out (by rw [jM,yy _ _ _ _ (by have:=HG.out;simp;omega),Int.toNat_natCast,<-Nat.add_assoc,<-HG.out];exact hl)
       exact m09
theorem KP:j7e n:=by
 intro B bb bo bc p a e d c st w hB he hB4 hr ha hn hd hc
 cases ht:qg (rst B a e)with
 |error er=>exact Uv n B bb bo bc p a e d c st w hB he hB4 hr ha hn hd hc er ht
 |ok x=>
  obtain⟨t,k⟩:=x
  cases hC:jY t with
  |false=>exact ZE n hk ho B bb bo bc p a e d c st w hB he hB4 hr ha hn hd hc t k ht hC
  |true=>
   cases st with
   |true=>exact Qt n hk ho B bb bo bc p a e d c w hB he hB4 hr ha hn hd hc t k ht hC
   |false=>exact ZD n hk ho B bb bo bc p a e d c w hB he hB4 hr ha hn hd hc t k ht hC
end
def yY(L:Ns)(u:Nat):Except Int Lst->Except Int Lst
 |.error e=>.error e
 |.ok r=>.ok ⟨L.app r.list,u+r.used,r.count⟩
theorem Jw(r:Except Int Lst):yY .nil 0 r=r:=by
 cases r with
 |error e=>rfl
 |ok r=>simp [yY,Ns.app]
theorem qy(L M:Ns)(u v:Nat)(r:Except Int Lst):yY L u (yY M v r)=yY (L.app M) (u+v) r:=by
 cases r with
 |error e=>rfl
 |ok r=>simp [yY,Ns.app_assoc,Nat.add_assoc]
section
variable{st:Bool}{m:Nat}{l:List UInt8}{d c:Nat}{op:Bool}
include st m l d c op
theorem jJ{er:Int}(h:kj l op=none)(ho:kP st m l d c=.error er):jh st (m+1) l d c op=.error er:=by
 rw [jh,h];simp only;rw [show yL st (jh st m) l d c=.error er from ho]
theorem jS{o:j3x}(h:kj l op=none)(ho:kP st m l d c=.ok o):jh st (m+1) l d c op=yY (.cons o.tag o.val o.kids .nil) o.used (jh st m (l.drop o.used) d o.count op):=by
 rw [jh,h];simp only;rw [show yL st (jh st m) l d c=.ok o from ho];simp only
 cases jh st m (l.drop o.used) d o.count op<;>rfl
theorem kx{u:Nat}(h:kj l op=some (.ok u)):jh st m l d c op=.ok ⟨.nil,u,c⟩:=by
 cases m<;>(rw [jh,h])
theorem xV{e:Int}(h:kj l op=some (.error e)):jh st m l d c op=.error e:=by
 cases m<;>(rw [jh,h])
end
theorem OwnN.lt{w:World}{base:Nat}{o:Value}{L:Ns}(h:OwnN w base o L){b:Nat}(e:o.ownBlock=some b):base<=b/\b<w.heap.size:=by
 obtain⟨xs,h1,_⟩:=h
 exact h1.lt b e
theorem yV{wr w1:World}{base:Nat}{o:Value}{L:Ns}(ho:OwnN wr base o L)(hb:base<=wr.heap.size)(x:Obj){b:Nat}(h:New wr w1 b)(hl:b<w1.heap.size):(w1.alloc x).heap[b]?=w1.heap[b]?/\xM base (w1.alloc x) o b:=
 ⟨Below.heap_alloc _ _ _ hl,by simp;omega,fun e=>by have:=(ho.lt e).2;omega,by omega⟩
def LSt(w wr:World)(p:Nat)(bv:Value)(st:Bool)(o:Value)(L:Ns)(g c:Nat):Prop:=OwnN wr w.heap.size o L/\Rd wr p bv g st c/\w.grownBy wr (some p)
section
variable{w wr:World}{p:Nat}{bv:Value}{st:Bool}{o:Value}{L:Ns}{g c:Nat}(h:LSt w wr p bv st o L g c)
include w wr p bv st o L g c h
theorem LSt.own:OwnN wr w.heap.size o L:=h.1
theorem LSt.rd:Rd wr p bv g st c:=h.2.1
theorem LSt.lt:w.heap.size<=wr.heap.size:=h.2.2.size
end
theorem LSt.bytes{w wr:World}{p:Nat}{bv x:Value}{st:Bool}{o:Value}{L:Ns}{g c:Nat}{l:List UInt8}(h:LSt w wr p bv st o L g c)(hB:BsS w (·≠p) x l):BsS wr (·≠p) x l:=
 hB.keep fun b hs hl=>⟨h.2.2.block b hl (by intro e;injection e with e;exact hs (by omega)),hs⟩
theorem LSt.draws{w wr:World}{p:Nat}{bv:Value}{st:Bool}{o:Value}{L:Ns}{g c:Nat}(h:LSt w wr p bv st o L g c)(n:Nat):LSt w (wr.drewN n) p bv st o L g c:=
 ⟨h.1.kept (row:=none) ⟨rfl,rfl,rfl,Nat.le_refl _,fun _ _ _=>rfl⟩ (fun p e=>by cases e),h.2.1,jA h.2.2 n⟩
theorem LSt.after{w wr w1:World}{p:Nat}{bv:Value}{st:Bool}{o:Value}{L:Ns}{g c g' c':Nat}(h:LSt w wr p bv st o L g c)(hr:Rd w1 p bv g' st c')(hg:wr.grownBy w1 (some p))(hp:p<w.heap.size):LSt w w1 p bv st o L g' c':=
 ⟨h.1.kept hg (fun q e=>by injection e with e;omega),hr,kr h.2.2 hg⟩
theorem LSt.alloc{w wr:World}{p:Nat}{bv:Value}{st:Bool}{o:Value}{L:Ns}{g c:Nat}(h:LSt w wr p bv st o L g c)(x:Obj):LSt w (wr.alloc x) p bv st o L g c:=
 ⟨h.1.alloc x,(Below.heap_alloc _ _ _ h.2.1.lt).trans h.2.1,jT h.2.2 x⟩
theorem LSt.push{w wr w2:World}{p:Nat}{bv:Value}{st:Bool}{o o':Value}{L L':Ns}{g c:Nat}(h:LSt w wr p bv st o L g c)(hg:j1q wr w2 w.heap.size o o' L')(hp:p<w.heap.size):LSt w w2 p bv st o' L' g c:=
 ⟨hg.1,(hg.2.1.block p hp).trans h.2.1,⟨hg.2.2.os.trans h.2.2.os,hg.2.2.tape.trans h.2.2.tape,hg.2.2.output.trans h.2.2.output,Nat.le_trans h.2.2.size hg.2.2.size,fun i hi hne=>(hg.2.1.block i hi).trans (h.2.2.block i hi hne)⟩⟩
theorem LSt.put{w wr:World}{p:Nat}{bv:Value}{st:Bool}{o:Value}{L:Ns}{g c:Nat}(h:LSt w wr p bv st o L g c)(n:Nat)(z:Int)(hz:z=n)(hp:p<w.heap.size):LSt w (wr.setCell ⟨p,1,none⟩ (.int .i64 z)) p bv st o L n c:=
 h.after (h.2.1.at_ n z hz) (jb (World.grownBy.refl wr _) (.inl rfl) _) hp
section
variable{w w':World}{p:Nat}{bv:Value}{a:Nat}{st:Bool}{r:Except Int Lst}{o:Value}{L:Ns}
include w w' p bv a st r o L
theorem ListOut.no{g c:Nat}{er:Int}(hr:r=.error er)(ne:er≠0)(h:LSt w w' p bv st o L g c):
 ListOut r w p bv a st (.returned (.tuple #[.slice none 0 0,.int .i64 er])) w':=by subst hr;exact⟨ne,rfl,⟨g,c,h.2.1⟩,h.2.2⟩
theorem ListOut.yes{g c u:Nat}(hr:r=.ok ⟨L,u,c⟩)(hu:a+u=g)(hl:L.len<=2513169434843)(h:LSt w w' p bv st o L g c):
 ListOut r w p bv a st (.returned (.tuple #[o,.int .i64 0])) w':=by subst hr hu;exact⟨_,rfl,h.1.nss hl,h.2.1,h.2.2⟩
end
theorem yt(L:Ns)(u v c:Nat):yY L u (.ok ⟨.nil,v,c⟩)=.ok ⟨L,u+v,c⟩:=by simp [yY,Ns.app_nil]
theorem Uw(n:Nat)(hO:∀m,m<n->j7e m):Jn 112 n false:=by
 intro B bb bo bc p a e d c st w hB he hB4 hr ha hn hd hc
 have HB:=iH hB;have HR:=iH hr
 have hp:=hr.lt
 clear hB hr
 go_enter Tryz.func112,Tryz.ntmps112
 go_wp2_with fail
 go_loopg [8] n (fun m o wr=>∃(L:Ns) (u cc:Nat),Hid (jh st n (rst B a e) d c false=yY L u (jh st m (rst B (a+u) e) d cc false))/\LSt w wr p (.slice (some ⟨bb,bo,none⟩) B.length bc) st o L (a+u) cc/\
  a+u<=e/\e - (a+u)<=m/\m<=n/\cc<=256/\L.len<=u)
 case atStart=>exact⟨.nil,0,c,by rw [Jw]<;>rfl,⟨OwnN.nil _ _,HR.out,World.grownBy.refl w _⟩,by omega,by omega,Nat.le_refl _,hc,Nat.le_refl _⟩
 case round=>
  obtain⟨L,u,cc,E,hS,hu1,hu2,hm,hcc,hLl⟩:=hrel
  obtain⟨oa,oc,rfl⟩:=hS.1.form
  have r0:=hS.2.1.c0;have r1:=hS.2.1.c1
  have S:=iH hS
  clear hS
  by_cases hlt:a+u<e
  ·obtain⟨m,rfl⟩:∃m,gk=m+1:=⟨gk - 1,by omega⟩
   have hh:kj (rst B (a+u) e) false=none:=by unfold kj;rw [iF (by decide),iF (by rw [jx he];omega)]
   have HOB:=fun(w1:World) (h1:BsS w1 (·≠p) (.slice (some ⟨bb,bo,none⟩) B.length bc) B) (h2:Rd w1 p (.slice (some ⟨bb,bo,none⟩) B.length bc) (a+u) st cc)=>iH (hO m (by omega) B bb bo bc p (a+u) e d cc st w1 h1 he hB4 h2 (by omega) (by omega) hd hcc)
   have hso:=zp (st:=st) (jP st m) (l:=rst B (a+u) e) (d:=d) (c:=cc)
   cases hx:kP st m (rst B (a+u) e) d cc with
   |error er=>
    have E2:Hid (jh st n (rst B a e) d c false=.error er):=by rw [E.out,jJ hh hx]<;>rfl
    have ner:=hso.2 er hx
    have n0:(er != 0)=true:=by simp [ner]
    have N0:=iH ner
    rw [hx]at HOB
    clear hx hso ner hh E
    go_wp2_with(go_at_call 136;refine(HOB _ (S.out.bytes HB.out) S.out.rd).out.mono ?_;intro e1 w1 h1;obtain⟨_,⟨t1,rfl⟩,⟨a1,c1,hr1⟩,hg1⟩:=h1;have S1:=iH (S.out.after hr1 hg1 hp);clear hr1 hg1)
    go_ret2
    exact ListOut.no E2.out N0.out (S1.out.alloc _)
   |ok x=>
    obtain⟨x1,x2,x3,x4⟩:=hso.1 x hx
    rw [jx he]at x2
    have E2:Hid (jh st n (rst B a e) d c false=yY (L.app (.cons x.tag x.val x.kids .nil)) (u+x.used) (jh st m (rst B (a+(u+x.used)) e) d x.count false)):=by
     rw [E.out,jS hh hx,qy,jM,Nat.add_assoc]<;>rfl
    rw [hx]at HOB
    clear hx hso hh E x4
    go_wp2_with(first
     |(go_at_call 136;refine(HOB _ (S.out.bytes HB.out) S.out.rd).out.mono ?_;intro e1 w1 h1;obtain⟨vv,kv,rfl,hv1,hk1,hi1,hr1,hg1⟩:=h1;obtain⟨va,vc,rfl⟩:=hv1.form2;obtain⟨ka,kc,rfl⟩:=NsS.form2 hk1;have S1:=iH (S.out.after hr1 hg1 hp);have Hv1:=iH hv1;have Hk1:=iH hk1;have Hi1:=iH hi1;have z1:=S1.out.lt;clear hv1 hk1 hr1 hg1 hi1)
     |(at_builtin;(with_reducible refine jz rfl (.tmp 27) (.tmp 29) rfl w.heap.size (.slice oa L.len oc) L rfl (S1.out.own.alloc (.cells #[.int .i64 x.tag,.slice va x.val.length vc,.slice ka x.kids.len kc] 61)) x.tag x.val x.kids (.slice va x.val.length vc) (.slice ka x.kids.len kc) _ (w1.heap.size+1) rfl (by simp) Hi1.out (Hv1.out.keep fun b hs hl=>yV S.out.own S.out.lt _ hs hl) (Hk1.out.keep fun b hs hl=>yV S.out.own S.out.lt _ hs hl) (by omega) (by simp;omega) ?_);intro o2 w2 hg2;have S2:=iH ((S1.out.alloc (.cells #[.int .i64 x.tag,.slice va x.val.length vc,.slice ka x.kids.len kc] 61)).push hg2 hp);clear hg2))
    go_roundg m
    case measure=>omega
    case rel=>exact⟨L.app (.cons x.tag x.val x.kids .nil),u+x.used,x.count,E2.out,by rw [<-Nat.add_assoc];exact S2.out,by omega,by omega,by omega,x3,by rw [Ns.len_snoc];omega⟩
  ·have E2:Hid (jh st n (rst B a e) d c false=.ok ⟨L,u+0,cc⟩):=by
    rw [E.out,kx (u:=0) (by unfold kj;rw [iF (by decide),iT (by rw [jx he];omega)]),yt]<;>rfl
   clear E
   go_wp2_with fail
   go_ret2
   exact ListOut.yes E2.out (by omega) (by omega) S.out
theorem j57(n:Nat)(hO:∀m,m<n->j7e m):Jn 146 n true:=by
 intro B bb bo bc p a e d c st w hB he hB4 hr ha hn hd hc
 have HB:=iH hB;have HR:=iH hr
 have hp:=hr.lt
 clear hB hr
 go_enter Tryz.func146,Tryz.ntmps146
 go_wp2_with fail
 go_loopg [8] n (fun m o wr=>∃(L:Ns) (u cc:Nat),Hid (jh st n (rst B a e) d c true=yY L u (jh st m (rst B (a+u) e) d cc true))/\LSt w wr p (.slice (some ⟨bb,bo,none⟩) B.length bc) st o L (a+u) cc/\
  a+u<=e/\e - (a+u)<=m/\m<=n/\cc<=256/\L.len<=u)
 case atStart=>exact⟨.nil,0,c,by rw [Jw]<;>rfl,⟨OwnN.nil _ _,HR.out,World.grownBy.refl w _⟩,by omega,by omega,Nat.le_refl _,hc,Nat.le_refl _⟩
 case round=>
  obtain⟨L,u,cc,E,hS,hu1,hu2,hm,hcc,hLl⟩:=hrel
  obtain⟨oa,oc,rfl⟩:=hS.1.form
  have r0:=hS.2.1.c0;have r1:=hS.2.1.c1
  have S:=iH hS
  clear hS
  have rf:=S.out.2.1.fr 1
  by_cases h0:a+u=e
  ·have E2:Hid (jh st n (rst B a e) d c true=.error 6):=by
    rw [E.out,xV (e:=6) (by unfold kj;rw [iT rfl,iT (.inl (by rw [jx he];omega))])]<;>rfl
   have d0:decide (((a:Int)+u)>=e)=true:=by simp;omega
   clear E
   go_wp2_with fail
   go_quiet (fail)
   go_wp2_with fail
   go_ret2
   exact ListOut.no E2.out (by decide) (S.out.draws nq)
  ·have hl:a+u<B.length:=by omega
   have q1:=(S.out.bytes HB.out).cellAt rfl hl
   have g0:gb (rst B (a+u) e) 0=gb B (a+u):=Je he (by omega)
   obtain⟨x,hx⟩:∃x:Nat,x=(gb B (a+u)).toNat:=⟨_,rfl⟩
   have ex:bv (gb B (a+u))=x:=by rw [hx]<;>rfl
   have ez:gb B (a+u)=0↔x=0:=by rw [hx];exact⟨fun h=>by rw [h]<;>rfl,fun h=>UInt8.toNat_inj.1 h⟩
   change wr.cell? _=some (.int .u8 (bv (gb B (a+u))))at q1
   rw [ex]at q1
   have b1:(0:Int)<=(a:Int)+u:=by omega
   have b2:(a:Int)+u<B.length:=by omega
   have d0:decide (((a:Int)+u)>=e)=false:=by simp;omega
   clear hx ex
   by_cases hx0:x=0
   ·have g0':gb (rst B (a+u) e) 0=0:=g0.trans (ez.2 hx0)
    subst hx0
    by_cases h1:a+u+1=e
    ·have E2:Hid (jh st n (rst B a e) d c true=.error 6):=by
      rw [E.out,xV (e:=6) (by unfold kj;rw [iT rfl,iT (.inr ⟨g0',by rw [jx he];omega⟩)])]<;>rfl
     have d1:decide (((a:Int)+u+1)>=e)=true:=by simp;omega
     clear E g0 g0' ez h0 h1
     go_wp2_with fail
     go_quiet (fail)
     go_wp2_with fail
     go_ret2
     exact ListOut.no E2.out (by decide) (S.out.draws nq)
    ·have hl2:a+u+1<B.length:=by omega
     have d1:decide (((a:Int)+u+1)>=e)=false:=by simp;omega
     have q2:=(S.out.bytes HB.out).cellAt rfl hl2
     have g1:gb (rst B (a+u) e) 1=gb B (a+u+1):=Je he (by omega)
     obtain⟨y,hy⟩:∃y:Nat,y=(gb B (a+u+1)).toNat:=⟨_,rfl⟩
     have ey:bv (gb B (a+u+1))=y:=by rw [hy]<;>rfl
     have ew:gb B (a+u+1)=0↔y=0:=by rw [hy];exact⟨fun h=>by rw [h]<;>rfl,fun h=>UInt8.toNat_inj.1 h⟩
     change wr.cell? _=some (.int .u8 (bv (gb B (a+u+1))))at q2
     rw [ey]at q2
     have b3:(0:Int)<=(a:Int)+u+1:=by omega
     have b4:(a:Int)+u+1<B.length:=by omega
     have hn1:¬((rst B (a+u) e).length=0\/(gb (rst B (a+u) e) 0=0/\(rst B (a+u) e).length=1)):=by rw [jx he];omega
     clear hy ey
     by_cases hy0:y=0
     ·have g1':=g1.trans (ew.2 hy0)
      subst hy0
      have E2:Hid (jh st n (rst B a e) d c true=.ok ⟨L,u+2,cc⟩):=by
       exact m3u
      clear E g0 g0' g1 g1' ez ew hn1 h0 h1
      go_wp2_with fail
      go_quiet (fail)
      go_wp2_with fail
      go_quiet (fail)
      go_wp2_with fail
      go_ret2
      exact ListOut.yes E2.out (by omega) (by omega) ((S.out.draws _).put (a+(u+2)) _ (by omega) hp)
     ·obtain⟨m,rfl⟩:∃m,gk=m+1:=⟨gk - 1,by omega⟩
      have hh:kj (rst B (a+u) e) true=none:=by unfold kj;rw [iT rfl,iF hn1,iF (fun h=>hy0 (ew.1 (g1.symm.trans h.2)))]
      have y0:((y:Int)==0)=false:=by simp;omega
      clear g0 g0' g1 ez ew hn1 h0 h1 hy0
      have HOB:=fun(w1:World) (h1:BsS w1 (·≠p) (.slice (some ⟨bb,bo,none⟩) B.length bc) B) (h2:Rd w1 p (.slice (some ⟨bb,bo,none⟩) B.length bc) (a+u) st cc)=>iH (hO m (by omega) B bb bo bc p (a+u) e d cc st w1 h1 he hB4 h2 (by omega) (by omega) hd hcc)
      have hso:=zp (st:=st) (jP st m) (l:=rst B (a+u) e) (d:=d) (c:=cc)
      cases hx:kP st m (rst B (a+u) e) d cc with
      |error er=>
       exact m0y
      |ok x=>
       exact m0h
   ·obtain⟨m,rfl⟩:∃m,gk=m+1:=⟨gk - 1,by omega⟩
    have hne:¬gb (rst B (a+u) e) 0=0:=fun h=>hx0 (ez.1 (g0.symm.trans h))
    have hh:kj (rst B (a+u) e) true=none:=by
     unfold kj;rw [iT rfl,iF (fun h=>h.elim (fun h=>by rw [jx he]at h;omega) fun h=>hne h.1),iF (fun h=>hne h.1)]
    have x0:((x:Int)==0)=false:=by simp;omega
    clear g0 ez h0 hx0 hne
    have HOB:=fun(w1:World) (h1:BsS w1 (·≠p) (.slice (some ⟨bb,bo,none⟩) B.length bc) B) (h2:Rd w1 p (.slice (some ⟨bb,bo,none⟩) B.length bc) (a+u) st cc)=>iH (hO m (by omega) B bb bo bc p (a+u) e d cc st w1 h1 he hB4 h2 (by omega) (by omega) hd hcc)
    have hso:=zp (st:=st) (jP st m) (l:=rst B (a+u) e) (d:=d) (c:=cc)
    cases hx:kP st m (rst B (a+u) e) d cc with
    |error er=>
     exact m0y
    |ok x=>
     exact m0h
theorem VL(n:Nat):Jn 146 n true/\Jn 112 n false:=by
 induction n using Nat.strongRecOn with
 |_ n ih=>exact⟨j57 n fun m hm=>KP m (ih m hm).1 (ih m hm).2,Uw n fun m hm=>KP m (ih m hm).1 (ih m hm).2⟩
end Go.Proofs.YtadndhgebgjlaaaGreat
