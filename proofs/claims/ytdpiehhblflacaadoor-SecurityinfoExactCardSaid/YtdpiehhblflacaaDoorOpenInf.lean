/- Layer 14: an argument []api.Info opened. -/
import Derived.Test.YtdpiehhblflacaaDoorRows
import Derived.Test.YtdpiehhblflacaaDoorQInfs
import Derived.Test.YtdpiehhblflacaaDoorOpen
namespace Go.Proofs.YtdpiehhblflacaaDoor
open Go.ChangeShapes Go.WideShapes Go.ChangeAt Go.RowKit

theorem cells_info : Tryd.prog.cellsOf 45 = 5 := by kernel_rfl
theorem cells_intI : Tryd.prog.cellsOf 3 = 1 := by kernel_rfl
theorem five_of {α : Type} : ∀ (l : List α), l.length = 5 → ∃ a b c d e, l = [a, b, c, d, e]
  | [a, b, c, d, e], _ => ⟨a, b, c, d, e, rfl⟩
section
variable {H : Type} {enc : TypeId × Value → H} {W : World} {base : Nat} {spare : Nat → Bool} {held : Bool}
set_option maxRecDepth 100000 in
theorem open_infos_at {fuel : Nat} {c : Value} {x : DataW H × List MemPlace} (h : DataW.trod enc Tryd.prog W base spare held fuel 22 [c] = some x)
    (hz : ∀ elems spare', x.1 = .slice elems spare' → elems.length ≤ 3518437208883) : ∃ l, InfS W (· < W.heap.size) c l := by
  rcases DataW.trod_slice Tryd.underlying22 h with ⟨hcs, hx⟩ | ⟨a, len, cap, elems, rest, n, hfuel, hcs, hx, _, hl, hm, hlen, hel, _⟩
  · injection hcs with hcs _
    subst hcs
    exact ⟨[], none, 0, rfl, by simp, by simp, by simp, fun h => by simp at h⟩
  · injection hcs with hcs _
    subst hcs
    rw [cells_info] at hel
    have hz := hz _ _ (by rw [hx])
    rw [List.length_map, hlen] at hz
    have hsp : 0 < len → a.spot = none := fun h0 => by
      have he := hel 0 h0
      rw [List.getElem?_eq_getElem (by omega)] at he
      obtain ⟨cs, hcs, _⟩ := Option.bind_eq_some_iff.1 he
      obtain ⟨_, hcl, hat⟩ := World.cells?_some hcs
      have a0 := hat 0 (by omega)
      rw [List.getElem?_eq_getElem (by omega)] at a0
      have h := World.cell?_spot a0
      simpa [Addr.add] using h
    have step : ∀ r, r ≤ len → ∃ L : List Inf, L.length = r ∧ (0 < r → a.spot = none ∧ a.block < W.heap.size ∧ InfsAt W L a.block (a.off + (len - r) * 5)) := by
      intro r
      induction r with
      | zero => intro _; exact ⟨[], rfl, fun h => by omega⟩
      | succ r ihr =>
        intro hr
        obtain ⟨R, hR1, hR4⟩ := ihr (by omega)
        obtain ⟨i, hi⟩ : ∃ i, i = len - (r + 1) := ⟨_, rfl⟩
        have hi1 : i < len := by omega
        have hi2 : len - r = i + 1 := by omega
        rw [hi2] at hR4
        rw [← hi]
        have hie : i < elems.length := by omega
        have he := hel i hi1
        rw [List.getElem?_eq_getElem hie] at he
        obtain ⟨cs, hcs, ht⟩ := Option.bind_eq_some_iff.1 he
        obtain ⟨_, hcl, hat⟩ := World.cells?_some hcs
        obtain ⟨xs, n', hn', hy, _, hxl, hf⟩ := DataW.trod_struct Tryd.underlying45 ht
        obtain ⟨c0, c1, c2, c3, c4, rfl⟩ : ∃ c0 c1 c2 c3 c4, cs = [c0, c1, c2, c3, c4] := five_of cs hcl
        have hxl : xs.length = 5 := hxl
        obtain ⟨x0, x1, x2, x3, x4, rfl⟩ : ∃ x0 x1 x2 x3 x4, xs = [x0, x1, x2, x3, x4] := five_of xs hxl
        have g0 : DataW.trod enc Tryd.prog W base spare held n' 3 (([c0, c1, c2, c3, c4].drop 0).take (Tryd.prog.cellsOf 3)) = some x0 := hf 0 _ rfl
        have g1 : DataW.trod enc Tryd.prog W base spare held n' 3 (([c0, c1, c2, c3, c4].drop 1).take (Tryd.prog.cellsOf 3)) = some x1 := hf 1 _ rfl
        have g2 : DataW.trod enc Tryd.prog W base spare held n' 3 (([c0, c1, c2, c3, c4].drop 2).take (Tryd.prog.cellsOf 3)) = some x2 := hf 2 _ rfl
        have g3 : DataW.trod enc Tryd.prog W base spare held n' 3 (([c0, c1, c2, c3, c4].drop 3).take (Tryd.prog.cellsOf 3)) = some x3 := hf 3 _ rfl
        have g4 : DataW.trod enc Tryd.prog W base spare held n' 3 (([c0, c1, c2, c3, c4].drop 4).take (Tryd.prog.cellsOf 3)) = some x4 := hf 4 _ rfl
        rw [cells_intI] at g0 g1 g2 g3 g4
        have one : ∀ (c : Value) (x : DataW H × List MemPlace), DataW.trod enc Tryd.prog W base spare held n' 3 [c] = some x → ∃ t, c = .int .i64 t ∧ I64in t := by
          intro c x g
          obtain ⟨t, hc0, _, htw⟩ := DataW.trod_int Tryd.underlying3 g
          injection hc0 with hc0 _
          have := wf_i64 htw
          exact ⟨t, hc0, by omega, by omega⟩
        obtain ⟨p, rfl, hp⟩ := one c0 x0 g0
        obtain ⟨v, rfl, hv⟩ := one c1 x1 g1
        obtain ⟨q, rfl, hq⟩ := one c2 x2 g2
        obtain ⟨k, rfl, hk⟩ := one c3 x3 g3
        obtain ⟨d, rfl, hd⟩ := one c4 x4 g4
        have a0 := hat 0 (by omega)
        have a1 := hat 1 (by omega)
        have a2 := hat 2 (by omega)
        have a3 := hat 3 (by omega)
        have a4 := hat 4 (by omega)
        obtain ⟨b, off, spot⟩ := a
        have hspot : spot = none := hsp (by omega)
        subst hspot
        have ea : ∀ j, (⟨b, off, none⟩ : Addr).add j = ⟨b, off + j, none⟩ := fun j => by unfold Addr.add; split <;> simp_all
        have eb : ∀ j k, (⟨b, off + j, none⟩ : Addr).add k = ⟨b, off + j + k, none⟩ := fun j k => by unfold Addr.add; split <;> simp_all
        rw [ea, eb] at a0 a1 a2 a3 a4
        have hbl : b < W.heap.size := block_lt_of_cell a0
        refine ⟨⟨p, v, q, k, d⟩ :: R, by simp [hR1], fun _ => ⟨rfl, hbl, ⟨a0, a1, a2, a3, a4⟩, ⟨hp, hv, hq, hk, hd⟩, ?_⟩⟩
        rcases Nat.eq_zero_or_pos r with h0 | h0
        · cases R with
          | nil => trivial
          | cons _ _ => simp at hR1; omega
        · have h9 := (hR4 h0).2.2
          have e : off + i * 5 + 5 = off + (i + 1) * 5 := by omega
          show InfsAt W R b (off + i * 5 + 5)
          rw [e]
          exact h9
    obtain ⟨L, h1, h4⟩ := step len (Nat.le_refl _)
    rw [Nat.sub_self] at h4
    refine ⟨L, some a, cap, by rw [h1], by omega, by unfold maxLen at hm; omega, by omega, fun h0 => ?_⟩
    rw [h1] at h0
    obtain ⟨g1, g2, g3⟩ := h4 h0
    obtain ⟨b, off, spot⟩ := a
    subst g1
    exact ⟨b, off, rfl, g2, g2, by simpa using g3⟩
set_option maxRecDepth 100000 in
/-- An argument []api.Info. -/
theorem open_infos {v : Value} {d : DataW H} {ps : List MemPlace} (h : DataW.Trod enc Tryd.prog W base spare held 22 v d ps)
    (hv : Value.okWide Tryd.prog W .any base 22 v)
    {ts : List TypeId} {ds : List (DataW H)} (hsz : (DataW.weightsEach Tryd.prog ts ds).all (· ≤ reachBytes) = true) {j : Nat} (htj : ts[j]? = some 22) (hdj : ds[j]? = some d) :
    ∃ l, InfS W (· < W.heap.size) v l := by
  obtain ⟨a, n, c, rfl⟩ := okWide_slice Tryd.underlying22 hv
  obtain ⟨fuel, hf⟩ := h
  refine open_infos_at hf fun elems spare' he => ?_
  have e40 : Tryd.prog.bytesOf 45 = 40 := by kernel_rfl
  have hw := sized_slice hsz htj (by rw [hdj]; exact congrArg some he) Tryd.underlying22
  rw [e40] at hw
  simp only [reachBytes] at hw
  omega
end
end Go.Proofs.YtdpiehhblflacaaDoor
