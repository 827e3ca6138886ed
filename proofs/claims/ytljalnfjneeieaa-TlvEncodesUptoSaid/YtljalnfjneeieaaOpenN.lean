/- An argument []api.Node opened: it reads as a list of objects, and its bulk bounds how many there are. -/
import Derived.Test.YtljalnfjneeieaaRows
import Derived.Test.YtljalnfjneeieaaTlvF
import Derived.Test.YtljalnfjneeieaaOpen
import Derived.WalkKit
import Derived.ProofKit
import Derived.OpenShut
import Derived.ChangeOld
import Derived.SizedLaws
import Derived.ChangeArms
import Derived.DataReads
namespace Go.Proofs.Ytljalnfjneeieaa
open Go.ChangeShapes Go.WideShapes Go.ChangeAt Go.RowKit

theorem cells_node : Try.prog.cellsOf 42 = 3 := by kernel_rfl
theorem cells_int : Try.prog.cellsOf 3 = 1 := by kernel_rfl
theorem cells_bytes : Try.prog.cellsOf 25 = 1 := by kernel_rfl
theorem cells_nodes : Try.prog.cellsOf 31 = 1 := by kernel_rfl
theorem cells_u8 : Try.prog.cellsOf 5 = 1 := by kernel_rfl
theorem bulk_pos {H : Type} (d : DataW H) : 1 ≤ Rows.uptoBulk d := by
  cases d with
  | lit l => cases l <;> simp [Rows.uptoBulk]
  | nil => simp [Rows.uptoBulk]
  | ptr d => simp [Rows.uptoBulk]
  | slice elems spare => simp [Rows.uptoBulk]
  | agg parts => simp [Rows.uptoBulk]
  | iface t d => simp [Rows.uptoBulk]
  | map entries => simp [Rows.uptoBulk]
  | held h => simp [Rows.uptoBulk]
theorem bulk_len {H : Type} (l : List (DataW H)) : l.length ≤ Rows.uptoBulkAll l := by
  induction l with
  | nil => simp
  | cons x r ih =>
    have h := bulk_pos x
    have e : Rows.uptoBulkAll (x :: r) = Rows.uptoBulk x + Rows.uptoBulkAll r := by simp only [Rows.uptoBulkAll]
    rw [e, List.length_cons]
    omega
section
variable {H : Type} {enc : TypeId × Value → H} {W : World} {base : Nat} {spare : Nat → Bool} {held : Bool}
/-- Bytes in a field. -/
theorem field_bytes {fuel : Nat} {c : Value} {x : DataW H × List MemPlace} (h : DataW.trod enc Try.prog W base spare held fuel 25 [c] = some x) (hb : Rows.uptoBulk x.1 ≤ 1048576) :
    ∃ l : List UInt8, BsS W (· < W.heap.size) c l ∧ l.length + 1 ≤ Rows.uptoBulk x.1 := by
  rcases open_ints Try.underlying25 Try.underlying5 cells_u8 h with ⟨hcs, hx⟩ | ⟨a, len, cap, zs, hcs, _, hl, hm, hz, hx, hcell, hwz⟩
  · injection hcs with hcs _
    subst hcs
    exact ⟨[], BsS.nil0 _ _, by rw [hx]; simp [Rows.uptoBulk]⟩
  · injection hcs with hcs _
    subst hcs
    have hn : len ≤ zs.length := by rw [hz]; split <;> omega
    have hll : ((zs.take len).map ofI).length = len := by simp; omega
    have hbk : len + 1 ≤ Rows.uptoBulk x.1 := by
      rw [hx]
      simp only [Rows.uptoBulk]
      have := bulk_len (H := H) (lits .u8 (zs.take len))
      rw [lits_len, List.length_take] at this
      omega
    refine ⟨(zs.take len).map ofI, ⟨some a, cap, by rw [hll], by omega, by unfold maxLen at hm; omega, by rw [hll]; omega, fun h0 => ?_⟩, by rw [hll]; omega⟩
    rw [hll] at h0
    obtain ⟨b, off, spot⟩ := a
    have h1 := hcell 0 (by omega)
    have hspot : spot = none := by simpa [Addr.add] using World.cell?_spot h1
    subst hspot
    have e0 : (⟨b, off, none⟩ : Addr).add 0 = ⟨b, off, none⟩ := by unfold Addr.add; simp
    rw [e0] at h1
    refine ⟨b, off, rfl, block_lt_of_cell h1, fun j hj => ?_⟩
    rw [hll] at hj
    have h2 := hcell j (by omega)
    have e1 : (⟨b, off, none⟩ : Addr).add j = ⟨b, off + j, none⟩ := by unfold Addr.add; split <;> simp_all
    rw [e1] at h2
    rw [h2]
    have hz2 : j < zs.length := by omega
    have hr := hwz _ (List.getElem_mem hz2)
    have hr : 0 ≤ zs[j] ∧ zs[j] < 256 := by
      simp [Lit.wf, IntKind.min, IntKind.max, IntKind.signed, IntKind.bits] at hr
      exact ⟨by omega, by omega⟩
    have e2 : gb ((zs.take len).map ofI) j = ofI zs[j] := by
      simp [gb, hj, hz2]
    rw [e2]
    show some (Value.int .u8 _) = some (Value.int .u8 (bv (ofI zs[j])))
    rw [bv_in hr.1 hr.2]
    simp [hz2]
/-- What is opened: a slice of objects, with the bounds that its bulk gives. -/
def Opened (W : World) (c : Value) (L : Ns) (b : Nat) : Prop := NsS W (· < W.heap.size) c L ∧ L.all ≤ b ∧ L.enc.length ≤ 20 * b
theorem open_nodes_at : ∀ (fuel : Nat) (c : Value) (x : DataW H × List MemPlace), DataW.trod enc Try.prog W base spare held fuel 31 [c] = some x → Rows.uptoBulk x.1 ≤ 1048576 → ∃ L, Opened W c L (Rows.uptoBulk x.1) := by
  intro fuel
  induction fuel using Nat.strongRecOn with
  | ind fuel ih =>
    intro c x h hb
    rcases DataW.trod_slice Try.underlying31 h with ⟨hcs, hx⟩ | ⟨a, len, cap, elems, rest, n, hfuel, hcs, hx, _, hl, hm, hlen, hel, _⟩
    · injection hcs with hcs _
      subst hcs
      exact ⟨.nil, NsS.nil0 _ _, by simp [Ns.all], by simp [Ns.enc]⟩
    · injection hcs with hcs _
      subst hcs
      rw [cells_node] at hel
      have hbulk : Rows.uptoBulkAll (elems.map (·.1)) + 1 ≤ Rows.uptoBulk x.1 := by rw [hx]; simp only [Rows.uptoBulk]; omega
      have hlb := bulk_len (elems.map (·.1))
      rw [List.length_map, hlen] at hlb
      have hsp : 0 < len → a.spot = none := fun h0 => by
        have he := hel 0 h0
        rw [List.getElem?_eq_getElem (by omega)] at he
        obtain ⟨cs, hcs, _⟩ := Option.bind_eq_some_iff.1 he
        obtain ⟨_, hcl, hat⟩ := World.cells?_some hcs
        have a0 := hat 0 (by omega)
        rw [List.getElem?_eq_getElem (by omega)] at a0
        have h := World.cell?_spot a0
        simpa [Addr.add] using h
      -- from the back
      have step : ∀ r, r ≤ len → ∃ L : Ns, L.len = r ∧ L.all ≤ Rows.uptoBulkAll ((elems.map (·.1)).drop (len - r)) ∧ L.enc.length ≤ 20 * Rows.uptoBulkAll ((elems.map (·.1)).drop (len - r)) ∧
          (0 < r → a.spot = none ∧ a.block < W.heap.size ∧ NsAt W (· < W.heap.size) L a.block (a.off + (len - r) * 3)) := by
        intro r
        induction r with
        | zero => intro _; exact ⟨.nil, rfl, by simp [Ns.all], by simp [Ns.enc], fun h => by omega⟩
        | succ r ihr =>
          intro hr
          obtain ⟨R, hR1, hR2, hR3, hR4⟩ := ihr (by omega)
          obtain ⟨i, hi⟩ : ∃ i, i = len - (r + 1) := ⟨_, rfl⟩
          have hi1 : i < len := by omega
          have hi2 : len - r = i + 1 := by omega
          rw [hi2] at hR2 hR3 hR4
          rw [← hi]
          have hie : i < elems.length := by omega
          have he := hel i hi1
          rw [List.getElem?_eq_getElem hie] at he
          obtain ⟨cs, hcs, ht⟩ := Option.bind_eq_some_iff.1 he
          obtain ⟨_, hcl, hat⟩ := World.cells?_some hcs
          obtain ⟨xs, n', hn', hy, _, hxl, hf⟩ := DataW.trod_struct Try.underlying42 ht
          obtain ⟨c0, c1, c2, rfl⟩ : ∃ c0 c1 c2, cs = [c0, c1, c2] := by
            match cs, hcl with
            | [c0, c1, c2], _ => exact ⟨c0, c1, c2, rfl⟩
          have hxl : xs.length = 3 := hxl
          obtain ⟨x0, x1, x2, rfl⟩ : ∃ x0 x1 x2, xs = [x0, x1, x2] := by
            match xs, hxl with
            | [x0, x1, x2], _ => exact ⟨x0, x1, x2, rfl⟩
          have g0 := hf 0 _ rfl
          have g1 := hf 1 _ rfl
          have g2 := hf 2 _ rfl
          have g0 : DataW.trod enc Try.prog W base spare held n' 3 (([c0, c1, c2].drop 0).take (Try.prog.cellsOf 3)) = some x0 := g0
          have g1 : DataW.trod enc Try.prog W base spare held n' 25 (([c0, c1, c2].drop 1).take (Try.prog.cellsOf 25)) = some x1 := g1
          have g2 : DataW.trod enc Try.prog W base spare held n' 31 (([c0, c1, c2].drop 2).take (Try.prog.cellsOf 31)) = some x2 := g2
          rw [cells_int] at g0
          rw [cells_bytes] at g1
          rw [cells_nodes] at g2
          have g0 : DataW.trod enc Try.prog W base spare held n' 3 [c0] = some x0 := g0
          have g1 : DataW.trod enc Try.prog W base spare held n' 25 [c1] = some x1 := g1
          have g2 : DataW.trod enc Try.prog W base spare held n' 31 [c2] = some x2 := g2
          -- the bulk of this object
          have hD : (elems.map (·.1)).drop i = (elems[i]).1 :: (elems.map (·.1)).drop (i + 1) := by
            rw [List.drop_eq_getElem_cons (by simpa using hie)]; simp
          have hB : Rows.uptoBulkAll ((elems.map (·.1)).drop i) = (Rows.uptoBulk x0.1 + (Rows.uptoBulk x1.1 + (Rows.uptoBulk x2.1 + 0))) + 1 + Rows.uptoBulkAll ((elems.map (·.1)).drop (i + 1)) := by
            rw [hD, hy]
            simp only [Rows.uptoBulkAll, Rows.uptoBulk, List.map_cons, List.map_nil]
          have hle : Rows.uptoBulkAll ((elems.map (·.1)).drop i) ≤ 1048576 := by
            have hsum : ∀ (l : List (DataW H)) (k : Nat), Rows.uptoBulkAll (l.drop k) ≤ Rows.uptoBulkAll l := by
              intro l
              induction l with
              | nil => intro k; simp
              | cons y q ihq =>
                intro k
                cases k with
                | zero => simp
                | succ k =>
                  have := ihq k
                  simp only [List.drop_succ_cons, Rows.uptoBulkAll]
                  omega
            have := hsum (elems.map (·.1)) i
            omega
          obtain ⟨t, hc0, _, htw⟩ := DataW.trod_int Try.underlying3 g0
          injection hc0 with hc0 _
          subst hc0
          have hti : I64in t := by
            simp [Lit.wf, IntKind.min, IntKind.max, IntKind.signed, IntKind.bits] at htw
            exact ⟨by omega, by omega⟩
          obtain ⟨v, hv, hvb⟩ := field_bytes g1 (by omega)
          obtain ⟨K, hK1, hK2, hK3⟩ := ih n' (by omega) c2 x2 g2 (by omega)
          have hp0 := bulk_pos x0.1
          have hp2 := bulk_pos x2.1
          have hel2 := enc_len t v K R
          -- where the cells lie
          have a0 := hat 0 (by omega)
          have a1 := hat 1 (by omega)
          have a2 := hat 2 (by omega)
          obtain ⟨b, off, spot⟩ := a
          have hspot : spot = none := hsp (by omega)
          subst hspot
          have ea : ∀ j, (⟨b, off, none⟩ : Addr).add j = ⟨b, off + j, none⟩ := fun j => by unfold Addr.add; split <;> simp_all
          have eb : ∀ j k, (⟨b, off + j, none⟩ : Addr).add k = ⟨b, off + j + k, none⟩ := fun j k => by unfold Addr.add; split <;> simp_all
          rw [ea, eb] at a0 a1 a2
          have hbl : b < W.heap.size := block_lt_of_cell a0
          refine ⟨.cons t v K R, by simp [Ns.len, hR1], by simp only [Ns.all]; omega, ?_, fun _ => ⟨rfl, hbl, ?_⟩⟩
          · split at hel2 <;> omega
          · obtain ⟨ka, kc, rfl, k1, k2, k3, k4⟩ := hK1
            refine ⟨a0, hti, ⟨c1, a1, hv⟩, ⟨ka, kc, a2, k1, k2, k3, k4⟩, ?_⟩
            rcases Nat.eq_zero_or_pos r with h0 | h0
            · cases R with
              | nil => trivial
              | cons _ _ _ _ => simp [Ns.len] at hR1; omega
            · have h9 := (hR4 h0).2.2
              have e : off + i * 3 + 3 = off + (i + 1) * 3 := by omega
              rw [e]
              exact h9
      obtain ⟨L, h1, h2, h3, h4⟩ := step len (Nat.le_refl _)
      rw [Nat.sub_self] at h2 h3 h4
      simp only [List.drop_zero] at h2 h3
      refine ⟨L, ⟨some a, cap, by rw [h1], by omega, hm, by omega, fun h0 => ?_⟩, by omega, by omega⟩
      rw [h1] at h0
      obtain ⟨g1, g2, g3⟩ := h4 h0
      obtain ⟨b, off, spot⟩ := a
      subst g1
      exact ⟨b, off, rfl, g2, g2, by simpa using g3⟩
end
end Go.Proofs.Ytljalnfjneeieaa
