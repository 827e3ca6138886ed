/- PasswordBegins holds: for every input that can be read the law returns true, and its arguments read behind the call as they read before. No condition. -/
import Derived.Test.YtalmmiojbmpmiaaGreatDoorCards
import Derived.Test.YtalmmiojbmpmiaaGreatDoorTie
import Derived.Test.YtalmmiojbmpmiaaGreatDoorPBx
import Derived.Test.YtalmmiojbmpmiaaGreatDoorPBh
import Derived.Test.YtalmmiojbmpmiaaGreatDoorPBg
set_option linter.all false
set_option maxRecDepth 100000
namespace Go.Proofs.YtalmmiojbmpmiaaGreatDoor.passwordBeginsDone
open Go.ChangeShapes Go.WideShapes Go.ChangeAt Go.RowKit
theorem own:ownKnob Tryz.prog.godebug=none:=by kernel_rfl
theorem laidOut:laidOutB Tryz.prog=true:=by kernel_rfl
theorem door_met(os:Os)(args:Array Value):laidMetH Tryz.prog KV ((World.doorLaid Tryz.prog 19 os).forCall (fun _ _=>0) ⟨#[],args,[]⟩).memory:=
 laidMetH_of_parts3 (fuel:=8) (laidMet_of_run' 8 (by kernel_rfl) (by kernel_rfl)) (by kernel_rfl) (by kernel_rfl)
set_option linter.unusedVariables false in
theorem lifted(os:Os)(started:os.Started)(H:Type)(enc:TypeId×Value->H):
 ReturnsInHanded {} Tryz.checked os 5 .any (fun w args=>(Rows.passwordBeginsSpec.pre enc Tryz.prog Tryz.f5 [] false w args/\laidMetH Tryz.prog KV w)/\sizedMet enc Tryz.prog Tryz.f5 (OpenSpec.ofChange Rows.passwordBeginsSpec) false w args)
  (Rows.passwordBeginsSpec.post enc Tryz.prog Tryz.f5 false true false false):=by
 refine returnsInHanded_of_change_and (C:=Tryz.checked) (X:=fun w _=>laidMetH Tryz.prog KV w) (fun _ _ _ hh h=>h.of_heap hh) own started (by kernel_rfl) Tryz.func5
  (ChangeSpec.witness_shaped (enc:=enc) (C:=Tryz.checked) (os:=os) (X:=fun w _=>laidMetH Tryz.prog KV w) false (World.doorLaid Tryz.prog 19 os) #[.agg #[.int .i64 0,.slice none 0 0],.int .i64 0] 8 rfl (World.shaped_of_RefB (by kernel_rfl) (by kernel_rfl)) (by kernel_rfl) (by kernel_rfl) (by kernel_rfl) (door_met os _)) ?_
 intro W base args ds gs before hval0 hW hcnd hsz0 hL _
 have hT:=Xu hL
 have hsz:(DataW.weightsEach Tryz.prog (Tryz.f5.params.toList++Rows.passwordBeginsSpec.plain.varTypes Tryz.prog) (ds++gs)).all (·<=reachBytes)=true:=hsz0
 clear hsz0
 have hval:∀(j:Nat) t v,Tryz.f5.params[j]?=some t->args[j]?=some v->Value.okWide Tryz.prog W .any base t v:=hval0
 have hW':=hW
 obtain⟨p,q,hA0,hV,rfl,hfz,hnd⟩:=hW
 have hA:DataW.TrodAll enc Tryz.prog W 0 (fun _=>true) true Tryz.f5.params.toList args.toList ds p:=hA0
 rw [Tryz.params5]at hA hval hsz
 obtain⟨v0,vs0,d0,ds0,p0,q0,hargs,rfl,rfl,h0,r0⟩:=trodAll_cons hA
 obtain⟨v1,vs1,d1,ds1,p1,q1,rfl,rfl,rfl,h1,r1⟩:=trodAll_cons r0
 obtain⟨rfl,rfl,rfl⟩:=trodAll_nil r1
 obtain rfl:args=#[v0,v1]:=by cases args;simp_all
 obtain⟨rfl,rfl⟩:=trodVars_none hV
 have k0:=h0
 have lt0:∀x∈p0,x.block<W.heap.size:=by obtain⟨m,hm⟩:=k0;exact DataW.trod_lt m _ _ _ hm
 obtain⟨x0,u0,y0,rfl,b0,n0⟩:=xl (hval 0 24 v0 rfl rfl) k0 hsz (j:=0) rfl rfl
 obtain⟨a1,rfl,rfl,rfl,w1⟩:=open_int Tryz.underlying3 (hval 1 3 v1 rfl rfl) h1
 clear hA0 hval0
 refine(xq x0 u0 y0 n0 a1 w1 W hT b0).mono fun e W' ⟨he,bel⟩=> ?_
 subst he
 exact⟨_,rfl,_,_,_,[],_,[],hW',trodAll_mk1 (shut_bool Tryz.underlying4 _),(trodAll_cons_mk (Below.trod laidOut (by kernel_rfl) (of_decide_eq_true (by kernel_rfl)) k0 bel lt0) (trodAll_cons_mk (shut_int Tryz.underlying3 w1) trodAll_mk0)),rfl,bel.frame _,fun h=>by cases h⟩
theorem over:Rows.passwordBeginsRow.holds Tryz.pinned (OpenSpec.ofChange Rows.passwordBeginsSpec):=
 OpenClaim.holds_of_wide 5 Tryz.f5 rfl rfl rfl rfl rfl rfl rfl ⟨rfl,rfl,rfl,rfl,rfl⟩ rfl rfl rfl rfl rfl (by kernel_rfl) Tryz.func5 (by kernel_rfl)
  (of_decide_eq_true (by kernel_rfl)) (by unfold Func.isWrapper;first|(rw [iT (by decide+kernel)];kernel_rfl)|(rw [iF (by decide+kernel)];exact⟨rfl,rfl⟩))
  (fun os started H enc _=>lifted os started H enc)
theorem passwordBegins_row:Rows.PasswordBeginsSaid:=over
theorem passwordBegins_holds:Rows.PasswordBeginsCardSaid:=
 Claim7.holds_tied_plain_at .later [] [.data] true (true, "89435deedd2070af58b7807a70e6e743681a8e0d8d0f046b07f8e97991586eaa") false
  passwordBegins_row (fun _ h=>by cases h) (by kernel_rfl) (fun _ h=>by cases h) passwordBegins_row_tie rfl ⟨rfl,rfl⟩ (by kernel_rfl) rfl
  (fun f fn hf hfn=>by
    obtain rfl:f=5:=Option.some.inj ((show Tryz.prog.funcNamed "traveldoc/traveldoclaw21.PasswordBegins" =some 5 by kernel_rfl).symm.trans hf) |>.symm
    obtain rfl:fn=Tryz.f5:=(Option.some.inj (Tryz.func5.symm.trans hfn)).symm
    exact⟨by kernel_rfl,fun j t ht=>by
     rw [Tryz.params5]at ht
     have hm:t∈ [24,3]:=by simpa using Array.mem_of_getElem? ht
     have hall:([24,3].all fun u=> !Tryz.prog.wantsStandIn u)=true:=by kernel_rfl
     exact(show Tryz.prog.wantsStandIn t=false by simpa using List.all_eq_true.1 hall t hm)⟩)
  (by kernel_rfl)
#print axioms passwordBegins_holds
end Go.Proofs.YtalmmiojbmpmiaaGreatDoor.passwordBeginsDone
