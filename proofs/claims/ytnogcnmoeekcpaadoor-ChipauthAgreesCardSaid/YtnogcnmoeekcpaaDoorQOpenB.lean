/- What the form's reading of an argument gives to a walk: a slice of bytes. No program is named here. -/
import Derived.Test.YtnogcnmoeekcpaaDoorSlice
import Derived.WalkKit
import Derived.ProofKit
import Derived.OpenShut
import Derived.ShutString
import Derived.ChangeOld
import Derived.Below
import Derived.SizedLaws
import Derived.Test.YtnogcnmoeekcpaaDoorQSame
import Derived.Deep.Slices
import Derived.ChangeArms
namespace Go.Proofs.YtnogcnmoeekcpaaDoor
open Go.ChangeShapes Go.WideShapes Go.ChangeAt Go.RowKit

theorem lits_len {H : Type} (k : IntKind) (zs : List Int) : (lits (H := H) k zs).length = zs.length := by simp [lits]
theorem wf_u8 {z : Int} (h : (Lit.int .u8 z).wf = true) : 0 ≤ z ∧ z < 256 := by
  have h1 : IntKind.u8.min = 0 := rfl
  have h2 : IntKind.u8.max = 255 := rfl
  simp only [Lit.wf, Bool.and_eq_true, decide_eq_true_eq] at h
  omega
theorem wf_i64 {z : Int} (h : (Lit.int .i64 z).wf = true) : -9223372036854775808 ≤ z ∧ z ≤ 9223372036854775807 := by
  have h1 : IntKind.i64.min = -9223372036854775808 := rfl
  have h2 : IntKind.i64.max = 9223372036854775807 := rfl
  simp only [Lit.wf, Bool.and_eq_true, decide_eq_true_eq] at h
  omega
/-- A slice of bytes that came in. -/
theorem open_bytes {H : Type} {enc : TypeId × Value → H} {P : Program} {t e : TypeId} (ht : P.underlying t = some (.slice e)) (he : P.underlying e = some (.int .u8)) (hc : P.cellsOf e = 1) (hb : P.bytesOf e = 1)
    {W : World} {base : Nat} {spare : Nat → Bool} {held : Bool} {a : Option Addr} {len cap : Nat} {d : DataW H} {ps : List MemPlace} (h : DataW.Trod enc P W base spare held t (.slice a len cap) d ps)
    {ts : List TypeId} {ds : List (DataW H)} (hsz : (DataW.weightsEach P ts ds).all (· ≤ reachBytes) = true) {j : Nat} (htj : ts[j]? = some t) (hdj : ds[j]? = some d) :
    ∃ l : List UInt8, Bs W W.heap.size (.slice a len cap) l ∧ l.length ≤ 140737488351232 := by
  obtain ⟨fuel, hf⟩ := h
  rcases open_ints ht he hc hf with ⟨hcs, _⟩ | ⟨x, n, c, zs, hcs, _, hl, hm, hz, hx, hcell, hwz⟩
  · simp [Value.cells] at hcs
    obtain ⟨rfl, rfl, rfl⟩ := hcs
    exact ⟨[], Bs.nil W _, by simp⟩
  · simp [Value.cells] at hcs
    obtain ⟨rfl, rfl, rfl⟩ := hcs
    simp only [Prod.mk.injEq] at hx
    have hn : len ≤ zs.length := by rw [hz]; split <;> omega
    have hw := sized_slice hsz htj (by rw [hdj, hx.1]) ht
    rw [lits_len, hb] at hw
    simp only [List.length_take, reachBytes] at hw
    have hll : ((zs.take len).map ofI).length = len := by simp; omega
    refine ⟨(zs.take len).map ofI, ⟨some x, cap, by rw [hll], by omega, by unfold maxLen at hm; omega, by rw [hll]; omega, fun h0 => ?_⟩, by rw [hll]; omega⟩
    rw [hll] at h0
    obtain ⟨b, off, spot⟩ := x
    have h1 := hcell 0 (by omega)
    have hspot : spot = none := by simpa [Addr.add] using World.cell?_spot h1
    subst hspot
    have e0 : (⟨b, off, none⟩ : Addr).add 0 = ⟨b, off, none⟩ := by unfold Addr.add; simp
    rw [e0] at h1
    refine ⟨b, off, rfl, block_lt_of_cell h1, fun j hj => ?_⟩
    rw [hll] at hj
    have h2 := hcell j (by omega)
    have e1 : (⟨b, off, none⟩ : Addr).add j = ⟨b, off + j, none⟩ := by unfold Addr.add; split <;> simp_all
    rw [e1] at h2
    rw [h2]
    have hz2 : j < zs.length := by omega
    have hr := wf_u8 (hwz _ (List.getElem_mem hz2))
    have e2 : gb ((zs.take len).map ofI) j = ofI zs[j] := by
      simp [gb, hj, hz2]
    rw [e2]
    show some (Value.int .u8 _) = some (Value.int .u8 (bv (ofI zs[j])))
    rw [bv_in hr.1 hr.2]
    simp [hz2]
end Go.Proofs.YtnogcnmoeekcpaaDoor
/- An argument string, or [][]byte, opened. No program is named here. -/
namespace Go.Proofs.YtnogcnmoeekcpaaDoor
open Go.ChangeShapes Go.WideShapes Go.ChangeAt Go.RowKit Go.Deep

/-- A text that came in. -/
theorem open_text {H : Type} {enc : TypeId × Value → H} {P : Program} {t : TypeId} (ht : P.underlying t = some .string)
    {W : World} {base : Nat} {spare : Nat → Bool} {held : Bool} {s : ByteArray} {d : DataW H} {ps : List MemPlace} (h : DataW.Trod enc P W base spare held t (.string s) d ps)
    {ts : List TypeId} {ds : List (DataW H)} (hsz : (DataW.weightsEach P ts ds).all (· ≤ reachBytes) = true) {j : Nat} (htj : ts[j]? = some t) (hdj : ds[j]? = some d) :
    d = .lit (.string s.data.toList) ∧ ps = [] ∧ s.size ≤ 140737488351232 := by
  obtain ⟨fuel, hf⟩ := h
  obtain ⟨s', hcs, hx, hm⟩ := DataW.trod_string ht hf
  simp [Value.cells] at hcs
  subst hcs
  simp only [Prod.mk.injEq] at hx
  obtain ⟨rfl, rfl⟩ := hx
  have hw := sized_string hsz htj hdj
  exact ⟨rfl, rfl, by simpa [reachBytes] using hw⟩
theorem open_bytes_at {H : Type} {enc : TypeId × Value → H} {P : Program} {t e : TypeId} (ht : P.underlying t = some (.slice e)) (he : P.underlying e = some (.int .u8)) (hc : P.cellsOf e = 1)
    {W : World} {base : Nat} {spare : Nat → Bool} {held : Bool} {fuel : Nat} {v : Value} {x : DataW H × List MemPlace} (hf : DataW.trod enc P W base spare held fuel t [v] = some x)
    (hz0 : ∀ elems sp, x.1 = .slice elems sp → elems.length ≤ 140737488351232) : ∃ l : List UInt8, Bs W W.heap.size v l := by
  rcases open_ints ht he hc hf with ⟨hcs, _⟩ | ⟨x, n, c, zs, hcs, _, hl, hm, hz, hx, hcell, hwz⟩
  · injection hcs with hcs _
    subst hcs
    exact ⟨[], Bs.nil W _⟩
  · injection hcs with hcs _
    subst hcs
    have hn : n ≤ zs.length := by rw [hz]; split <;> omega
    have hw := hz0 _ _ (by rw [hx])
    rw [lits_len] at hw
    simp only [List.length_take] at hw
    have hll : ((zs.take n).map ofI).length = n := by simp; omega
    refine ⟨(zs.take n).map ofI, ⟨some x, c, by rw [hll], by omega, by unfold maxLen at hm; omega, by rw [hll]; omega, fun h0 => ?_⟩⟩
    rw [hll] at h0
    obtain ⟨b, off, spot⟩ := x
    have h1 := hcell 0 (by omega)
    have hspot : spot = none := by simpa [Addr.add] using World.cell?_spot h1
    subst hspot
    have e0 : (⟨b, off, none⟩ : Addr).add 0 = ⟨b, off, none⟩ := by unfold Addr.add; simp
    rw [e0] at h1
    refine ⟨b, off, rfl, block_lt_of_cell h1, fun j hj => ?_⟩
    rw [hll] at hj
    have h2 := hcell j (by omega)
    have e1 : (⟨b, off, none⟩ : Addr).add j = ⟨b, off + j, none⟩ := by unfold Addr.add; split <;> simp_all
    rw [e1] at h2
    rw [h2]
    have hz2 : j < zs.length := by omega
    have hr := wf_u8 (hwz _ (List.getElem_mem hz2))
    have e2 : gb ((zs.take n).map ofI) j = ofI zs[j] := by
      simp [gb, hj, hz2]
    rw [e2]
    show some (Value.int .u8 _) = some (Value.int .u8 (bv (ofI zs[j])))
    rw [bv_in hr.1 hr.2]
    simp [hz2]
theorem weights_all {H : Type} {P : Program} {e : TypeId} : ∀ {l : List (DataW H)} {d : DataW H}, d ∈ l → ∀ n ∈ d.weights P e, n ∈ DataW.weightsAll P e l
  | [], _, h, _, _ => by simp at h
  | x :: l, d, h, n, hn => by
    simp only [DataW.weightsAll, List.mem_append]
    rcases List.mem_cons.1 h with rfl | h
    · exact .inl hn
    · exact .inr (weights_all h n hn)
/-- Lists of bytes that came in. -/
theorem open_blist {H : Type} {enc : TypeId × Value → H} {P : Program} {t u e : TypeId} (ht : P.underlying t = some (.slice u)) (hu : P.underlying u = some (.slice e)) (he : P.underlying e = some (.int .u8)) (hcu : P.cellsOf u = 1) (hc : P.cellsOf e = 1) (hb : P.bytesOf e = 1)
    {W : World} {base : Nat} {spare : Nat → Bool} {held : Bool} {A : Option Addr} {len cap : Nat} {d : DataW H} {ps : List MemPlace} (h : DataW.Trod enc P W base spare held t (.slice A len cap) d ps)
    {ts : List TypeId} {ds : List (DataW H)} (hsz : (DataW.weightsEach P ts ds).all (· ≤ reachBytes) = true) {j : Nat} (htj : ts[j]? = some t) (hdj : ds[j]? = some d) :
    ∃ L : List (List UInt8), LBs W W.heap.size (.slice A len cap) L := by
  obtain ⟨fuel, hf⟩ := h
  rcases open_slice1 ht hcu hf with ⟨hcs, _⟩ | ⟨a, ln, cp, m, n, V, D, Pl, hcs, _, hl, hm, hmm, hx, hV⟩
  · simp [Value.cells] at hcs
    obtain ⟨rfl, rfl, rfl⟩ := hcs
    exact ⟨[], LBs.nil W _⟩
  · simp [Value.cells] at hcs
    obtain ⟨rfl, rfl, rfl⟩ := hcs
    simp only [Prod.mk.injEq] at hx
    have hlm : len ≤ m := by rw [hmm]; split <;> omega
    have each : ∀ i, i < len → ∃ l : List UInt8, Bs W W.heap.size (V i) l := fun i hi => by
      refine open_bytes_at hu he hc (hV i (by omega)).2 fun elems sp hel => ?_
      have hin : (elems.length + sp.length) * P.bytesOf e ∈ DataW.weightsEach P ts ds := DataW.weights_mem_each htj hdj _ (by
        rw [hx.1]
        simp only [DataW.weights, ht, List.mem_cons, List.mem_append]
        refine .inr (.inl (weights_all (List.mem_map.2 ⟨i, List.mem_range.2 hi, rfl⟩) _ ?_))
        have hel' : D i = .slice elems sp := hel
        rw [hel']
        simp [DataW.weights, hu])
      have hle := of_decide_eq_true (List.all_eq_true.1 hsz _ hin)
      rw [hb] at hle
      simp only [reachBytes] at hle
      omega
    obtain ⟨F, hF⟩ := choose_lt each
    refine ⟨(List.range len).map F, some a, cap, (List.range len).map V, by simp, by simpa using hl, by unfold maxLen at hm; omega, ⟨by simp, fun i x hi => ?_⟩, fun h0 => ?_⟩
    · rw [List.getElem?_map] at hi
      obtain ⟨k, hk, rfl⟩ := Option.map_eq_some_iff.1 hi
      obtain ⟨hk1, hk2⟩ := List.getElem?_eq_some_iff.1 hk
      simp at hk1 hk2
      subst hk2
      have : gl ((List.range len).map F) i = F i := by simp [gl, hk1]
      rw [this]
      exact hF i hk1
    · obtain ⟨b, off, spot⟩ := a
      have h0' : 0 < len := by simpa using h0
      have h1 := (hV 0 (by omega)).1
      have hspot : spot = none := by simpa [Addr.add] using World.cell?_spot h1
      subst hspot
      have e1 : ∀ i, (⟨b, off, none⟩ : Addr).add i = ⟨b, off + i, none⟩ := fun i => by unfold Addr.add; split <;> simp_all
      rw [e1] at h1
      refine ⟨b, off, rfl, block_lt_of_cell h1, fun i x hi => ?_⟩
      rw [List.getElem?_map] at hi
      obtain ⟨k, hk, rfl⟩ := Option.map_eq_some_iff.1 hi
      obtain ⟨hk1, hk2⟩ := List.getElem?_eq_some_iff.1 hk
      simp at hk1 hk2
      subst hk2
      have h2 := (hV i (by omega)).1
      rw [e1] at h2
      exact h2
end Go.Proofs.YtnogcnmoeekcpaaDoor
