/- What the form's reading of an array of two bytes gives to a walk. No program is named here. -/
import Derived.Test.YtmpcjaoemfnjcaaOpen
namespace Go.Proofs.Ytmpcjaoemfnjcaa
open Go.ChangeShapes Go.WideShapes Go.ChangeAt Go.RowKit

theorem byte_in {n : Int} (h : (Lit.int .u8 n).wf = true) : ∃ a : UInt8, Value.int .u8 n = U8 a := by
  have hr := wf_u8 h
  exact ⟨ofI n, by show _ = Value.int .u8 (bv (ofI n)); rw [bv_in hr.1 hr.2]⟩
/-- An array of two bytes that came in. -/
theorem open_pair {H : Type} {enc : TypeId × Value → H} {P : Program} {t e : TypeId} (ht : P.underlying t = some (.array 2 e)) (he : P.underlying e = some (.int .u8)) (hc : P.cellsOf e = 1) (h2 : P.cellsOf t = 2)
    {W : World} {base : Nat} {spare : Nat → Bool} {held : Bool} {v : Value} {d : DataW H} {ps : List MemPlace} (h : DataW.Trod enc P W base spare held t v d ps) :
    ∃ a b : UInt8, v = .agg #[U8 a, U8 b] ∧ ps = [] := by
  obtain ⟨fuel, hf⟩ := h
  obtain ⟨xs, m, _, hx, hl, hn, hi⟩ := DataW.trod_array ht hf
  rw [h2] at hl
  have hv : ∃ c0 c1, v.cells.toList = [c0, c1] ∧ v = .agg #[c0, c1] := by
    cases v with
    | agg cs =>
      obtain ⟨l⟩ := cs
      match l, hl with
      | [c0, c1], _ => exact ⟨c0, c1, rfl, rfl⟩
    | _ => simp [Value.cells] at hl
  obtain ⟨c0, c1, hcs, rfl⟩ := hv
  match xs, hn with
  | [x0, x1], _ =>
    have h0 := hi 0 (by omega)
    have h1 := hi 1 (by omega)
    rw [hcs, hc] at h0 h1
    simp at h0 h1
    obtain ⟨n0, e0, f0, w0⟩ := DataW.trod_int he h0
    obtain ⟨n1, e1, f1, w1⟩ := DataW.trod_int he h1
    simp at e0 e1
    subst e0 e1 f0 f1
    obtain ⟨a, ha⟩ := byte_in w0
    obtain ⟨b, hb⟩ := byte_in w1
    rw [ha, hb]
    simp only [Prod.mk.injEq] at hx
    exact ⟨a, b, rfl, by rw [hx.2]; rfl⟩
end Go.Proofs.Ytmpcjaoemfnjcaa
