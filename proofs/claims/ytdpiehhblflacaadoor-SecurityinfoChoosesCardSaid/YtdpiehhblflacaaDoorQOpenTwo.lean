/- What the form's reading of an argument gives to a walk: a slice of bytes. No program is named here. -/
import Derived.Test.YtdpiehhblflacaaDoorSlice
import Derived.WalkKit
import Derived.ProofKit
import Derived.OpenShut
import Derived.ShutString
import Derived.ChangeOld
import Derived.Below
import Derived.SizedLaws
import Derived.Test.YtdpiehhblflacaaDoorRows
import Derived.Test.YtdpiehhblflacaaDoorQInfs
import Derived.Test.YtdpiehhblflacaaDoorIdent
import Derived.LaidMore
import Derived.Lib.LaidTab
import Derived.Stop.Joined
import Derived.Test.YtdpiehhblflacaaDoorQSpoil
namespace Go.Proofs.YtdpiehhblflacaaDoor
open Go.ChangeShapes Go.WideShapes Go.ChangeAt Go.RowKit

theorem lits_len {H : Type} (k : IntKind) (zs : List Int) : (lits (H := H) k zs).length = zs.length := by simp [lits]
theorem wf_u8 {z : Int} (h : (Lit.int .u8 z).wf = true) : 0 ≤ z ∧ z < 256 := by
  have h1 : IntKind.u8.min = 0 := rfl
  have h2 : IntKind.u8.max = 255 := rfl
  simp only [Lit.wf, Bool.and_eq_true, decide_eq_true_eq] at h
  omega
theorem wf_i64 {z : Int} (h : (Lit.int .i64 z).wf = true) : -9223372036854775808 ≤ z ∧ z ≤ 9223372036854775807 := by
  have h1 : IntKind.i64.min = -9223372036854775808 := rfl
  have h2 : IntKind.i64.max = 9223372036854775807 := rfl
  simp only [Lit.wf, Bool.and_eq_true, decide_eq_true_eq] at h
  omega
/-- A slice of bytes that came in. -/
theorem open_bytes {H : Type} {enc : TypeId × Value → H} {P : Program} {t e : TypeId} (ht : P.underlying t = some (.slice e)) (he : P.underlying e = some (.int .u8)) (hc : P.cellsOf e = 1) (hb : P.bytesOf e = 1)
    {W : World} {base : Nat} {spare : Nat → Bool} {held : Bool} {a : Option Addr} {len cap : Nat} {d : DataW H} {ps : List MemPlace} (h : DataW.Trod enc P W base spare held t (.slice a len cap) d ps)
    {ts : List TypeId} {ds : List (DataW H)} (hsz : (DataW.weightsEach P ts ds).all (· ≤ reachBytes) = true) {j : Nat} (htj : ts[j]? = some t) (hdj : ds[j]? = some d) :
    ∃ l : List UInt8, Bs W W.heap.size (.slice a len cap) l ∧ l.length ≤ 140737488351232 := by
  obtain ⟨fuel, hf⟩ := h
  rcases open_ints ht he hc hf with ⟨hcs, _⟩ | ⟨x, n, c, zs, hcs, _, hl, hm, hz, hx, hcell, hwz⟩
  · simp [Value.cells] at hcs
    obtain ⟨rfl, rfl, rfl⟩ := hcs
    exact ⟨[], Bs.nil W _, by simp⟩
  · simp [Value.cells] at hcs
    obtain ⟨rfl, rfl, rfl⟩ := hcs
    simp only [Prod.mk.injEq] at hx
    have hn : len ≤ zs.length := by rw [hz]; split <;> omega
    have hw := sized_slice hsz htj (by rw [hdj, hx.1]) ht
    rw [lits_len, hb] at hw
    simp only [List.length_take, reachBytes] at hw
    have hll : ((zs.take len).map ofI).length = len := by simp; omega
    refine ⟨(zs.take len).map ofI, ⟨some x, cap, by rw [hll], by omega, by unfold maxLen at hm; omega, by rw [hll]; omega, fun h0 => ?_⟩, by rw [hll]; omega⟩
    rw [hll] at h0
    obtain ⟨b, off, spot⟩ := x
    have h1 := hcell 0 (by omega)
    have hspot : spot = none := by simpa [Addr.add] using World.cell?_spot h1
    subst hspot
    have e0 : (⟨b, off, none⟩ : Addr).add 0 = ⟨b, off, none⟩ := by unfold Addr.add; simp
    rw [e0] at h1
    refine ⟨b, off, rfl, block_lt_of_cell h1, fun j hj => ?_⟩
    rw [hll] at hj
    have h2 := hcell j (by omega)
    have e1 : (⟨b, off, none⟩ : Addr).add j = ⟨b, off + j, none⟩ := by unfold Addr.add; split <;> simp_all
    rw [e1] at h2
    rw [h2]
    have hz2 : j < zs.length := by omega
    have hr := wf_u8 (hwz _ (List.getElem_mem hz2))
    have e2 : gb ((zs.take len).map ofI) j = ofI zs[j] := by
      simp [gb, hj, hz2]
    rw [e2]
    show some (Value.int .u8 _) = some (Value.int .u8 (bv (ofI zs[j])))
    rw [bv_in hr.1 hr.2]
    simp [hz2]
end Go.Proofs.YtdpiehhblflacaaDoor
/- Layer 14: an argument []api.Info opened. -/
namespace Go.Proofs.YtdpiehhblflacaaDoor
open Go.ChangeShapes Go.WideShapes Go.ChangeAt Go.RowKit

theorem cells_info : Tryd.prog.cellsOf 45 = 5 := by kernel_rfl
theorem cells_intI : Tryd.prog.cellsOf 3 = 1 := by kernel_rfl
theorem five_of {α : Type} : ∀ (l : List α), l.length = 5 → ∃ a b c d e, l = [a, b, c, d, e]
  | [a, b, c, d, e], _ => ⟨a, b, c, d, e, rfl⟩
section
variable {H : Type} {enc : TypeId × Value → H} {W : World} {base : Nat} {spare : Nat → Bool} {held : Bool}
set_option maxRecDepth 100000 in
theorem open_infos_at {fuel : Nat} {c : Value} {x : DataW H × List MemPlace} (h : DataW.trod enc Tryd.prog W base spare held fuel 22 [c] = some x)
    (hz : ∀ elems spare', x.1 = .slice elems spare' → elems.length ≤ 3518437208883) : ∃ l, InfS W (· < W.heap.size) c l := by
  rcases DataW.trod_slice Tryd.underlying22 h with ⟨hcs, hx⟩ | ⟨a, len, cap, elems, rest, n, hfuel, hcs, hx, _, hl, hm, hlen, hel, _⟩
  · injection hcs with hcs _
    subst hcs
    exact ⟨[], none, 0, rfl, by simp, by simp, by simp, fun h => by simp at h⟩
  · injection hcs with hcs _
    subst hcs
    rw [cells_info] at hel
    have hz := hz _ _ (by rw [hx])
    rw [List.length_map, hlen] at hz
    have hsp : 0 < len → a.spot = none := fun h0 => by
      have he := hel 0 h0
      rw [List.getElem?_eq_getElem (by omega)] at he
      obtain ⟨cs, hcs, _⟩ := Option.bind_eq_some_iff.1 he
      obtain ⟨_, hcl, hat⟩ := World.cells?_some hcs
      have a0 := hat 0 (by omega)
      rw [List.getElem?_eq_getElem (by omega)] at a0
      have h := World.cell?_spot a0
      simpa [Addr.add] using h
    have step : ∀ r, r ≤ len → ∃ L : List Inf, L.length = r ∧ (0 < r → a.spot = none ∧ a.block < W.heap.size ∧ InfsAt W L a.block (a.off + (len - r) * 5)) := by
      intro r
      induction r with
      | zero => intro _; exact ⟨[], rfl, fun h => by omega⟩
      | succ r ihr =>
        intro hr
        obtain ⟨R, hR1, hR4⟩ := ihr (by omega)
        obtain ⟨i, hi⟩ : ∃ i, i = len - (r + 1) := ⟨_, rfl⟩
        have hi1 : i < len := by omega
        have hi2 : len - r = i + 1 := by omega
        rw [hi2] at hR4
        rw [← hi]
        have hie : i < elems.length := by omega
        have he := hel i hi1
        rw [List.getElem?_eq_getElem hie] at he
        obtain ⟨cs, hcs, ht⟩ := Option.bind_eq_some_iff.1 he
        obtain ⟨_, hcl, hat⟩ := World.cells?_some hcs
        obtain ⟨xs, n', hn', hy, _, hxl, hf⟩ := DataW.trod_struct Tryd.underlying45 ht
        obtain ⟨c0, c1, c2, c3, c4, rfl⟩ : ∃ c0 c1 c2 c3 c4, cs = [c0, c1, c2, c3, c4] := five_of cs hcl
        have hxl : xs.length = 5 := hxl
        obtain ⟨x0, x1, x2, x3, x4, rfl⟩ : ∃ x0 x1 x2 x3 x4, xs = [x0, x1, x2, x3, x4] := five_of xs hxl
        have g0 : DataW.trod enc Tryd.prog W base spare held n' 3 (([c0, c1, c2, c3, c4].drop 0).take (Tryd.prog.cellsOf 3)) = some x0 := hf 0 _ rfl
        have g1 : DataW.trod enc Tryd.prog W base spare held n' 3 (([c0, c1, c2, c3, c4].drop 1).take (Tryd.prog.cellsOf 3)) = some x1 := hf 1 _ rfl
        have g2 : DataW.trod enc Tryd.prog W base spare held n' 3 (([c0, c1, c2, c3, c4].drop 2).take (Tryd.prog.cellsOf 3)) = some x2 := hf 2 _ rfl
        have g3 : DataW.trod enc Tryd.prog W base spare held n' 3 (([c0, c1, c2, c3, c4].drop 3).take (Tryd.prog.cellsOf 3)) = some x3 := hf 3 _ rfl
        have g4 : DataW.trod enc Tryd.prog W base spare held n' 3 (([c0, c1, c2, c3, c4].drop 4).take (Tryd.prog.cellsOf 3)) = some x4 := hf 4 _ rfl
        rw [cells_intI] at g0 g1 g2 g3 g4
        have one : ∀ (c : Value) (x : DataW H × List MemPlace), DataW.trod enc Tryd.prog W base spare held n' 3 [c] = some x → ∃ t, c = .int .i64 t ∧ I64in t := by
          intro c x g
          obtain ⟨t, hc0, _, htw⟩ := DataW.trod_int Tryd.underlying3 g
          injection hc0 with hc0 _
          have := wf_i64 htw
          exact ⟨t, hc0, by omega, by omega⟩
        obtain ⟨p, rfl, hp⟩ := one c0 x0 g0
        obtain ⟨v, rfl, hv⟩ := one c1 x1 g1
        obtain ⟨q, rfl, hq⟩ := one c2 x2 g2
        obtain ⟨k, rfl, hk⟩ := one c3 x3 g3
        obtain ⟨d, rfl, hd⟩ := one c4 x4 g4
        have a0 := hat 0 (by omega)
        have a1 := hat 1 (by omega)
        have a2 := hat 2 (by omega)
        have a3 := hat 3 (by omega)
        have a4 := hat 4 (by omega)
        obtain ⟨b, off, spot⟩ := a
        have hspot : spot = none := hsp (by omega)
        subst hspot
        have ea : ∀ j, (⟨b, off, none⟩ : Addr).add j = ⟨b, off + j, none⟩ := fun j => by unfold Addr.add; split <;> simp_all
        have eb : ∀ j k, (⟨b, off + j, none⟩ : Addr).add k = ⟨b, off + j + k, none⟩ := fun j k => by unfold Addr.add; split <;> simp_all
        rw [ea, eb] at a0 a1 a2 a3 a4
        have hbl : b < W.heap.size := block_lt_of_cell a0
        refine ⟨⟨p, v, q, k, d⟩ :: R, by simp [hR1], fun _ => ⟨rfl, hbl, ⟨a0, a1, a2, a3, a4⟩, ⟨hp, hv, hq, hk, hd⟩, ?_⟩⟩
        rcases Nat.eq_zero_or_pos r with h0 | h0
        · cases R with
          | nil => trivial
          | cons _ _ => simp at hR1; omega
        · have h9 := (hR4 h0).2.2
          have e : off + i * 5 + 5 = off + (i + 1) * 5 := by omega
          show InfsAt W R b (off + i * 5 + 5)
          rw [e]
          exact h9
    obtain ⟨L, h1, h4⟩ := step len (Nat.le_refl _)
    rw [Nat.sub_self] at h4
    refine ⟨L, some a, cap, by rw [h1], by omega, by unfold maxLen at hm; omega, by omega, fun h0 => ?_⟩
    rw [h1] at h0
    obtain ⟨g1, g2, g3⟩ := h4 h0
    obtain ⟨b, off, spot⟩ := a
    subst g1
    exact ⟨b, off, rfl, g2, g2, by simpa using g3⟩
set_option maxRecDepth 100000 in
/-- An argument []api.Info. -/
theorem open_infos {v : Value} {d : DataW H} {ps : List MemPlace} (h : DataW.Trod enc Tryd.prog W base spare held 22 v d ps)
    (hv : Value.okWide Tryd.prog W .any base 22 v)
    {ts : List TypeId} {ds : List (DataW H)} (hsz : (DataW.weightsEach Tryd.prog ts ds).all (· ≤ reachBytes) = true) {j : Nat} (htj : ts[j]? = some 22) (hdj : ds[j]? = some d) :
    ∃ l, InfS W (· < W.heap.size) v l := by
  obtain ⟨a, n, c, rfl⟩ := okWide_slice Tryd.underlying22 hv
  obtain ⟨fuel, hf⟩ := h
  refine open_infos_at hf fun elems spare' he => ?_
  have e40 : Tryd.prog.bytesOf 45 = 40 := by kernel_rfl
  have hw := sized_slice hsz htj (by rw [hdj]; exact congrArg some he) Tryd.underlying22
  rw [e40] at hw
  simp only [reachBytes] at hw
  omega
end
end Go.Proofs.YtdpiehhblflacaaDoor
/- Layer 14: what the listed table gives. -/
namespace Go.Proofs.YtdpiehhblflacaaDoor
open Go.ChangeShapes Go.WideShapes Go.ChangeAt Go.RowKit

abbrev laidL : List (String × DataW Unit) := [("traveldoc/securityinfo.endings", Rows.laid_traveldoc_securityinfo_endings)]
theorem gEnd : Tryd.prog.globalNamed "traveldoc/securityinfo.endings" = some 0 := by kernel_rfl
theorem tEnd : (Tryd.prog.globals[0]?).map (·.type) = some 91 := by kernel_rfl
theorem tabE_of_laid {W : World} (h : laidMetH Tryd.prog laidL W) : TabE W := by
  rw [MakeChecks.laidMetH_plain _ _ _ (by kernel_rfl)] at h
  obtain ⟨ps, ⟨g0, t0, cs0, f0, p0, q0, hg0, ht0, hv0, hd0, _, _⟩, _, _⟩ := h
  obtain rfl := Option.some.inj (gEnd.symm.trans hg0)
  obtain rfl := Option.some.inj (tEnd.symm.trans ht0)
  obtain ⟨xs, m1, rfl, hx1, hlen, hn3, hel⟩ := DataW.trod_array Tryd.underlying91 hd0
  have c2 : Tryd.prog.cellsOf 90 = 2 := by kernel_rfl
  have c14 : Tryd.prog.cellsOf 91 = 14 := by kernel_rfl
  have c1 : Tryd.prog.cellsOf 5 = 1 := by kernel_rfl
  rw [c2] at hel
  have key : ∀ i, i < 7 → (cs0.toList.drop (i * 2)).take 2 = [U8 (gb endT (i * 2)), U8 (gb endT (i * 2 + 1))] := by
    intro i hi
    have h0 := hel i hi
    rw [List.getElem?_eq_getElem (by omega)] at h0
    have hd : xs[i].1 = Lib.tabData .u8 [bv (gb endT (i * 2)), bv (gb endT (i * 2 + 1))] := by
      have e : (xs.map (·.1))[i]? = [Lib.tabData (H := Unit) .u8 [0, 0], Lib.tabData .u8 [0, 0], Lib.tabData .u8 [4, 1], Lib.tabData .u8 [4, 2], Lib.tabData .u8 [3, 1], Lib.tabData .u8 [2, 1], Lib.tabData .u8 [5, 1]][i]? := by
        have := (DataW.agg.inj (Prod.mk.inj hx1).1).symm
        rw [this]
        rfl
      rw [List.getElem?_map, List.getElem?_eq_getElem (by omega)] at e
      obtain rfl | rfl | rfl | rfl | rfl | rfl | rfl : i = 0 ∨ i = 1 ∨ i = 2 ∨ i = 3 ∨ i = 4 ∨ i = 5 ∨ i = 6 := by omega
      all_goals exact Option.some.inj e
    have h1 := Lib.cells_of_tab Tryd.underlying90 Tryd.underlying5 c1 c2 (h0.trans (by rw [show xs[i] = (xs[i].1, xs[i].2) from rfl, hd]))
    rw [h1]
    rfl
  have hl : cs0.size = 14 := by rw [← Array.length_toList, hlen, c14]
  intro i hi
  rw [World.var?_cell hg0 hv0 i, ← Array.getElem?_toList]
  have hk := key (i / 2) (by omega)
  have e : cs0.toList[i]? = ((cs0.toList.drop (i / 2 * 2)).take 2)[i % 2]? := by
    rw [List.getElem?_take, if_pos (by omega), List.getElem?_drop]
    rw [show i / 2 * 2 + i % 2 = i by omega]
  rw [e, hk]
  rcases Nat.mod_two_eq_zero_or_one i with h2 | h2
  · rw [h2]
    have : i / 2 * 2 = i := by omega
    rw [this]; rfl
  · rw [h2]
    have : i / 2 * 2 + 1 = i := by omega
    rw [this]; rfl
end Go.Proofs.YtdpiehhblflacaaDoor
/- An argument []int opened. -/
namespace Go.Proofs.YtdpiehhblflacaaDoor
open Go.ChangeShapes Go.WideShapes Go.ChangeAt Go.RowKit

/-- A slice of numbers that came in. -/
theorem open_nums {H : Type} {enc : TypeId × Value → H} {P : Program} {t e : TypeId} (ht : P.underlying t = some (.slice e)) (he : P.underlying e = some (.int .i64)) (hc : P.cellsOf e = 1) (hb : P.bytesOf e = 8)
    {W : World} {base : Nat} {spare : Nat → Bool} {held : Bool} {a : Option Addr} {len cap : Nat} {d : DataW H} {ps : List MemPlace} (h : DataW.Trod enc P W base spare held t (.slice a len cap) d ps)
    {ts : List TypeId} {ds : List (DataW H)} (hsz : (DataW.weightsEach P ts ds).all (· ≤ reachBytes) = true) {j : Nat} (htj : ts[j]? = some t) (hdj : ds[j]? = some d) :
    IntsS W (· < W.heap.size) (.slice a len cap) len := by
  obtain ⟨fuel, hf⟩ := h
  rcases open_ints ht he hc hf with ⟨hcs, _⟩ | ⟨x, n, c, zs, hcs, _, hl, hm, hz, hx, hcell, hwz⟩
  · simp [Value.cells] at hcs
    obtain ⟨rfl, rfl, rfl⟩ := hcs
    exact ⟨none, 0, rfl, by omega, by omega, by omega, fun h => by omega⟩
  · simp [Value.cells] at hcs
    obtain ⟨rfl, rfl, rfl⟩ := hcs
    simp only [Prod.mk.injEq] at hx
    have hn : len ≤ zs.length := by rw [hz]; split <;> omega
    have hw := sized_slice hsz htj (by rw [hdj, hx.1]) ht
    rw [lits_len, hb] at hw
    simp only [List.length_take, reachBytes] at hw
    refine ⟨some x, cap, rfl, by omega, by unfold maxLen at hm; omega, by omega, fun h0 => ?_⟩
    obtain ⟨b, off, spot⟩ := x
    have h1 := hcell 0 (by omega)
    have hspot : spot = none := by simpa [Addr.add] using World.cell?_spot h1
    subst hspot
    have e0 : (⟨b, off, none⟩ : Addr).add 0 = ⟨b, off, none⟩ := by unfold Addr.add; simp
    rw [e0] at h1
    refine ⟨b, off, rfl, block_lt_of_cell h1, block_lt_of_cell h1, fun j hj => ?_⟩
    have h2 := hcell j (by omega)
    have e1 : (⟨b, off, none⟩ : Addr).add j = ⟨b, off + j, none⟩ := by unfold Addr.add; split <;> simp_all
    rw [e1] at h2
    have hz2 : j < zs.length := by omega
    have hr := hwz _ (List.getElem_mem hz2)
    refine ⟨zs.getD j 0, ?_, h2⟩
    have e2 : zs.getD j 0 = zs[j] := by simp [hz2]
    rw [e2]
    simp [Lit.wf, IntKind.min, IntKind.max, IntKind.signed, IntKind.bits] at hr
    exact ⟨by omega, by omega⟩
end Go.Proofs.YtdpiehhblflacaaDoor
/- Layer 14: an argument [2][]api.Info opened. -/
namespace Go.Proofs.YtdpiehhblflacaaDoor
open Go.ChangeShapes Go.WideShapes Go.ChangeAt Go.RowKit

section
variable {H : Type} {enc : TypeId × Value → H} {W : World} {base : Nat} {spare : Nat → Bool} {held : Bool}
theorem two_of {α : Type} : ∀ (l : List α), l.length = 2 → ∃ a b, l = [a, b]
  | [a, b], _ => ⟨a, b, rfl⟩
set_option maxRecDepth 100000 in
theorem weights_two {d0 d1 : DataW H} {ts : List TypeId} {ds : List (DataW H)} (hsz : (DataW.weightsEach Tryd.prog ts ds).all (· ≤ reachBytes) = true) {j : Nat} (htj : ts[j]? = some 47) (hdj : ds[j]? = some (.agg [d0, d1])) (d : DataW H) (hd : d = d0 ∨ d = d1) :
    ∀ elems spare', d = .slice elems spare' → elems.length ≤ 3518437208883 := by
  intro elems spare' he
  have e40 : Tryd.prog.bytesOf 45 = 40 := by kernel_rfl
  have h := List.all_eq_true.1 hsz ((elems.length + spare'.length) * Tryd.prog.bytesOf 45) (DataW.weights_mem_each htj hdj _ (by
    simp only [DataW.weights, Tryd.underlying47, DataW.weightsAll, List.mem_append]
    have hm : (elems.length + spare'.length) * Tryd.prog.bytesOf 45 ∈ DataW.weights Tryd.prog 22 d := by
      rw [he]
      simp [DataW.weights, Tryd.underlying22]
    rcases hd with rfl | rfl
    · exact .inl hm
    · exact .inr (.inl hm)))
  rw [e40] at h
  have h' := of_decide_eq_true h
  simp only [reachBytes] at h'
  omega
set_option maxRecDepth 100000 in
/-- An argument [2][]api.Info. -/
theorem open_two {v : Value} {d : DataW H} {ps : List MemPlace} (h : DataW.Trod enc Tryd.prog W base spare held 47 v d ps)
    {ts : List TypeId} {ds : List (DataW H)} (hsz : (DataW.weightsEach Tryd.prog ts ds).all (· ≤ reachBytes) = true) {j : Nat} (htj : ts[j]? = some 47) (hdj : ds[j]? = some d) :
    ∃ l m : List Inf, ∃ a b : Value, v = .agg #[a, b] ∧ InfS W (· < W.heap.size) a l ∧ InfS W (· < W.heap.size) b m := by
  obtain ⟨fuel, hf⟩ := h
  obtain ⟨xs, k, _, hx, hl, hn, hi⟩ := DataW.trod_array Tryd.underlying47 hf
  have h2 : Tryd.prog.cellsOf 47 = 2 := by kernel_rfl
  have h1 : Tryd.prog.cellsOf 22 = 1 := by kernel_rfl
  rw [h2] at hl
  have hv : ∃ c0 c1, v.cells.toList = [c0, c1] ∧ v = .agg #[c0, c1] := by
    cases v with
    | agg cs =>
      obtain ⟨l⟩ := cs
      obtain ⟨c0, c1, rfl⟩ := two_of l hl
      exact ⟨c0, c1, rfl, rfl⟩
    | _ => simp [Value.cells] at hl
  obtain ⟨c0, c1, hcs, rfl⟩ := hv
  obtain ⟨x0, x1, rfl⟩ := two_of xs hn
  have g0 := hi 0 (by omega)
  have g1 := hi 1 (by omega)
  rw [hcs, h1] at g0 g1
  simp only [Prod.mk.injEq] at hx
  have hd : d = .agg [x0.1, x1.1] := hx.1
  obtain ⟨l, hl0⟩ := open_infos_at g0 (weights_two hsz htj (by rw [hdj, hd]) x0.1 (.inl rfl))
  obtain ⟨m, hm0⟩ := open_infos_at g1 (weights_two hsz htj (by rw [hdj, hd]) x1.1 (.inr rfl))
  exact ⟨l, m, c0, c1, rfl, hl0, hm0⟩
end
end Go.Proofs.YtdpiehhblflacaaDoor
