/- TlvEncodes holds for every input of a bulk of at most 1048576 that can be read: the law returns true, and its arguments read behind the call as they read before. The condition is the statement's own bound on the bulk. -/
import Derived.Test.YtljalnfjneeieaaRows
import Derived.Test.YtljalnfjneeieaaOpen
import Derived.Test.YtljalnfjneeieaaOpenN
import Derived.Test.YtljalnfjneeieaaLaw2g
import Derived.JoinedCond
namespace Go.Proofs.Ytljalnfjneeieaa.tlvEncodesUptoDone
open Go.ChangeShapes Go.WideShapes Go.ChangeAt Go.RowKit

/-- A slice of numbers that came in, number by number. -/
theorem open_list {H : Type} {enc : TypeId × Value → H} {P : Program} {t e : TypeId} (ht : P.underlying t = some (.slice e)) (he : P.underlying e = some (.int .i64)) (hc : P.cellsOf e = 1)
    {W : World} {base : Nat} {spare : Nat → Bool} {held : Bool} {a : Option Addr} {len cap : Nat} {d : DataW H} {ps : List MemPlace} (h : DataW.Trod enc P W base spare held t (.slice a len cap) d ps) (hb : Rows.uptoBulk d ≤ 1048576) :
    ∃ l : List Int, IntL W (· < W.heap.size) (.slice a len cap) l := by
  obtain ⟨fuel, hf⟩ := h
  rcases open_ints ht he hc hf with ⟨hcs, _⟩ | ⟨x, n, c, zs, hcs, _, hl, hm, hz, hx, hcell, hwz⟩
  · simp [Value.cells] at hcs
    obtain ⟨rfl, rfl, rfl⟩ := hcs
    exact ⟨[], none, 0, rfl, by simp, by simp, by simp, by simp, fun h => by simp at h⟩
  · simp [Value.cells] at hcs
    obtain ⟨rfl, rfl, rfl⟩ := hcs
    simp only [Prod.mk.injEq] at hx
    have hn : len ≤ zs.length := by rw [hz]; split <;> omega
    have hll : (zs.take len).length = len := by simp; omega
    have hbk : len + 1 ≤ Rows.uptoBulk d := by
      rw [hx.1]
      simp only [Rows.uptoBulk]
      have := bulk_len (H := H) (lits .i64 (zs.take len))
      rw [lits_len, List.length_take] at this
      omega
    refine ⟨zs.take len, some x, cap, by rw [hll], by omega, by unfold maxLen at hm; omega, by omega, fun z hzm => ?_, fun h0 => ?_⟩
    · have hr := hwz _ (List.mem_of_mem_take hzm)
      simp [Lit.wf, IntKind.min, IntKind.max, IntKind.signed, IntKind.bits] at hr
      exact ⟨by omega, by omega⟩
    · rw [hll] at h0
      obtain ⟨b, off, spot⟩ := x
      have h1 := hcell 0 (by omega)
      have hspot : spot = none := by simpa [Addr.add] using World.cell?_spot h1
      subst hspot
      have e0 : (⟨b, off, none⟩ : Addr).add 0 = ⟨b, off, none⟩ := by unfold Addr.add; simp
      rw [e0] at h1
      refine ⟨b, off, rfl, block_lt_of_cell h1, block_lt_of_cell h1, fun j hj => ?_⟩
      rw [hll] at hj
      have h2 := hcell j (by omega)
      have e1 : (⟨b, off, none⟩ : Addr).add j = ⟨b, off + j, none⟩ := by unfold Addr.add; split <;> simp_all
      rw [e1] at h2
      rw [h2]
      have hz2 : j < zs.length := by omega
      have e2 : (zs.take len).getD j 0 = zs.getD j 0 := by simp [List.getD, List.getElem?_take, hj]
      rw [e2]
theorem own : ownKnob Try.prog.godebug = none := by kernel_rfl
theorem laidOut : laidOutB Try.prog = true := by kernel_rfl
set_option linter.unusedVariables false in
set_option maxRecDepth 100000 in
theorem lifted (os : Os) (started : os.Started) (H : Type) (enc : TypeId × Value → H) (F : Stop.Interp) :
    ReturnsInHanded {} Try.checked os 9 .any ((Rows.OpenSpec.upto Rows.tlvEncodesSpec).pre6 enc Try.prog Try.f9 Rows.tlvEncodesUptoRow.domain false) (((Rows.OpenSpec.upto Rows.tlvEncodesSpec).at F).post enc Try.prog Try.f9 false true false false) := by
  refine returnsInHanded_of_cond (C := Try.checked) (s := Rows.OpenSpec.upto Rows.tlvEncodesSpec) (k := Rows.uptoSmall) rfl own started (by kernel_rfl) Try.func9
    (OpenSpec.witness (enc := enc) (C := Try.checked) (s := Rows.OpenSpec.upto Rows.tlvEncodesSpec) (k := Rows.uptoSmall) rfl false ⟨#[], #[.slice none 0 0, .slice none 0 0], []⟩ 8 (by kernel_rfl) (by kernel_rfl) (by kernel_rfl)
      (x := ([.nil, .nil], [], [])) (by kernel_rfl) rfl (by kernel_rfl)) ?_
  intro W base args ds gs before hval0 hW _ hk _
  have hval : ∀ (j : Nat) t v, Try.f9.params[j]? = some t → args[j]? = some v → Value.okWide Try.prog W .any base t v := hval0
  have hW' := hW
  obtain ⟨p, q, hA0, hV, rfl, hfz, hnd⟩ := hW
  have hA : DataW.TrodAll enc Try.prog W 0 (fun _ => true) true Try.f9.params.toList args.toList ds p := hA0
  rw [Try.params9] at hA hval
  obtain ⟨v0, vs0, d0, ds0, p0, q0, hargs, rfl, rfl, h0, r0⟩ := trodAll_cons hA
  obtain ⟨v1, vs1, d1, ds1, p1, q1, rfl, rfl, rfl, h1, r1⟩ := trodAll_cons r0
  obtain ⟨rfl, rfl, rfl⟩ := trodAll_nil r1
  obtain rfl : args = #[v0, v1] := by cases args; simp_all
  obtain ⟨rfl, rfl⟩ := trodVars_none hV
  have hbulk : Rows.uptoBulk d0 + (Rows.uptoBulk d1 + 0) ≤ 1048576 := by
    have h : Rows.uptoBulkAll [d0, d1] ≤ 1048576 := by simpa [Rows.uptoSmall] using hk
    simpa only [Rows.uptoBulkAll] using h
  obtain ⟨a0, len0, cap0, rfl⟩ := okWide_slice Try.underlying31 (hval 0 31 v0 rfl rfl)
  have k0 := h0
  have lt0 : ∀ x ∈ p0, x.block < W.heap.size := by obtain ⟨m, hm⟩ := k0; exact DataW.trod_lt m _ _ _ hm
  obtain ⟨L, b0, n0, e0⟩ : ∃ L, Opened W (.slice a0 len0 cap0) L (Rows.uptoBulk d0) := by
    obtain ⟨m, hm⟩ := k0
    exact open_nodes_at m (.slice a0 len0 cap0) (d0, p0) hm (by show Rows.uptoBulk d0 ≤ 1048576; omega)
  obtain ⟨a1, len1, cap1, rfl⟩ := okWide_slice Try.underlying24 (hval 1 24 v1 rfl rfl)
  have k1 := h1
  have lt1 : ∀ x ∈ p1, x.block < W.heap.size := by obtain ⟨m, hm⟩ := k1; exact DataW.trod_lt m _ _ _ hm
  obtain ⟨ps, b1⟩ := open_list Try.underlying24 Try.underlying3 (by kernel_rfl) k1 (by omega)
  clear hA0 hval0
  refine (encodes_any L _ _ ps W b0 b1 (by omega) (by omega)).mono fun e W' ⟨he, bel⟩ => ?_
  subst he
  exact ⟨_, rfl, _, _, _, [], _, [], hW', trodAll_mk1 (shut_bool Try.underlying4 _), (trodAll_cons_mk (Below.trod laidOut (by kernel_rfl) (of_decide_eq_true (by kernel_rfl)) k0 bel lt0) (trodAll_cons_mk (Below.trod laidOut (by kernel_rfl) (of_decide_eq_true (by kernel_rfl)) k1 bel lt1) trodAll_mk0)), rfl, bel.frame _, fun h => by cases h⟩

theorem over : Rows.tlvEncodesUptoRow.holds Try.pinned (Rows.OpenSpec.upto Rows.tlvEncodesSpec) :=
  OpenClaim.holds_of_cond 9 Try.f9 rfl rfl rfl rfl rfl rfl rfl ⟨rfl, rfl, rfl, rfl, rfl⟩ rfl rfl rfl rfl rfl (by kernel_rfl) Try.func9 (by kernel_rfl)
    (of_decide_eq_true (by kernel_rfl)) (by unfold Func.isWrapper; first | (rw [if_pos (by decide +kernel)]; kernel_rfl) | (rw [if_neg (by decide +kernel)]; exact ⟨rfl, rfl⟩))
    (fun os started H enc _ F => lifted os started H enc F)

/-- The statement. -/
theorem tlvEncodesUpto_holds : Rows.TlvEncodesUptoSaid := over
#print axioms tlvEncodesUpto_holds
end Go.Proofs.Ytljalnfjneeieaa.tlvEncodesUptoDone
