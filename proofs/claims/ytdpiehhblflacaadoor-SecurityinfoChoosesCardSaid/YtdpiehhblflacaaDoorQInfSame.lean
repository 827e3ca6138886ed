/- Rows of infos of the call's own: append of one, what they read as. -/
import Derived.Test.YtdpiehhblflacaaDoorRowA
import Derived.Test.YtdpiehhblflacaaDoorQInfs
import Derived.Test.YtdpiehhblflacaaDoorReg
import Derived.Laws.StructEq
import Derived.Deep.LoopGhost
import Derived.Deep.QuietTactic
import Derived.BigQuiet
namespace Go.Proofs.YtdpiehhblflacaaDoor
open Go.RowKit Go.Deep

theorem infoInfo : (Tryd.prog.info? 45).map (fun i => (i.zero, i.size, i.bytes)) = some (some (.agg #[.int .i64 0, .int .i64 0, .int .i64 0, .int .i64 0, .int .i64 0]), 5, 40) := by kernel_rfl
def infV : List Inf → List Value
  | [] => []
  | x :: r => .int .i64 x.p :: .int .i64 x.v :: .int .i64 x.r :: .int .i64 x.k :: .int .i64 x.d :: infV r
theorem infV_len (l : List Inf) : (infV l).length = l.length * 5 := by
  induction l with
  | nil => rfl
  | cons x r ih => simp only [infV, List.length_cons, ih]; omega
theorem infV_app (l m : List Inf) : infV (l ++ m) = infV l ++ infV m := by
  induction l with
  | nil => rfl
  | cons x r ih => simp only [infV, List.cons_append, ih]
abbrev OwnI (w : World) (base : Nat) (o : Value) (l : List Inf) : Prop := w.ownsRow base 45 5 o l.length (infV l)
theorem InfsAt.of_cells {w : World} {g : Nat} : ∀ (l : List Inf) (off : Nat), (∀ x ∈ l, x.fits) → (∀ j u, (infV l)[j]? = some u → w.cell? ⟨g, off + j, none⟩ = some u) → InfsAt w l g off := by
  intro l
  induction l with
  | nil => intros; trivial
  | cons x r ih =>
    intro off hf hc
    refine ⟨⟨hc 0 _ rfl, hc 1 _ rfl, hc 2 _ rfl, hc 3 _ rfl, hc 4 _ rfl⟩, hf x (by simp), ih (off + 5) (fun y hy => hf y (by simp [hy])) fun j u hj => ?_⟩
    have := hc (j + 5) u (by simpa [infV] using hj)
    rwa [show off + (j + 5) = off + 5 + j by omega] at this
theorem OwnI.infs {w : World} {base : Nat} {o : Value} {l : List Inf} (h : OwnI w base o l) (hf : ∀ x ∈ l, x.fits) (hl : l.length ≤ 3518437208883) : InfS w (fun b => base ≤ b ∧ b < w.heap.size) o l := by
  rcases h.2 with ⟨rfl, h0⟩ | ⟨g, cap, cur, rfl, hb, hh, hn, hm, r⟩
  · have : l = [] := List.eq_nil_of_length_eq_zero h0
    subst this
    exact ⟨none, 0, rfl, Nat.le_refl _, by simp, by simp, fun h => by simp at h⟩
  · have hlt : g < w.heap.size := (Array.getElem?_eq_some_iff.1 hh).1
    refine ⟨_, cap, rfl, hn, by unfold maxLen at hm; exact hm, hl, fun _ => ⟨g, 0, rfl, ⟨hb, hlt⟩, hlt, InfsAt.of_cells l 0 hf fun j u hu => ?_⟩⟩
    have := h.cells (g := g) rfl j u hu
    rwa [addr_add] at this
theorem OwnI.nil (w : World) (base : Nat) : OwnI w base (.slice none 0 0) [] := World.ownsRow_nil _ _ _ _
theorem OwnI.form {w : World} {base : Nat} {o : Value} {l : List Inf} (h : OwnI w base o l) : ∃ A c, o = .slice A l.length c := by
  rcases h.2 with ⟨rfl, h0⟩ | ⟨g, cap, cur, hv, _⟩
  · exact ⟨_, _, by rw [h0]⟩
  · exact ⟨_, _, hv⟩
theorem row_later {w w' : World} {base : Nat} {e : TypeId} {size n : Nat} {o : Value} {xs : List Value} (h : w.ownsRow base e size o n xs) (hb : Below w.heap.size w w') : w'.ownsRow base e size o n xs := by
  refine ⟨h.1, ?_⟩
  rcases h.2 with h0 | ⟨g, cap, cur, hv, hb', hh, r⟩
  · exact .inl h0
  · exact .inr ⟨g, cap, cur, hv, hb', (hb.block g (Array.getElem?_eq_some_iff.1 hh).1).trans hh, r⟩
theorem OwnI.later {w w' : World} {base : Nat} {o : Value} {l : List Inf} (h : OwnI w base o l) (hb : Below w.heap.size w w') : OwnI w' base o l := row_later h hb
theorem z5 : (Value.agg #[.int .i64 0, .int .i64 0, .int .i64 0, .int .i64 0, .int .i64 0]).cells.size = 5 := rfl
structure GrewI (w w' : World) (base : Nat) (o o' : Value) (l : List Inf) : Prop where
  own : OwnI w' base o' l
  below : Below base w w'
/-- append of one info, in the block that was made for it. -/
theorem wpList_info {ops : Array Oper} {rest : List Oper} {op : Oper} {a : Act} {w : World} {Q : Exit → Act → World → Prop} (hgd : op.guard = none) (s x : Operand)
    (ho : op.op = .call { callee := .builtin .append, args := #[s, x], argTypes := #[22, 22] })
    (base : Nat) (o : Value) (l : List Inf) (y : Inf) (hs : a.eval s = o) (hown : OwnI w base o l) (ty : TypeId) (g : Nat) (hx : a.eval x = .slice (some ⟨g, 0, none⟩) 1 1) (hg : g = w.heap.size) (hl : l.length ≤ 1000000000000) (hbase : base ≤ w.heap.size)
    (h : ∀ o' w', GrewI w w' base o o' (l ++ [y]) → wpList Tryd.prog ops Q rest (a.put op.dst o') w') : wpList Tryd.prog ops Q (op :: rest) a (w.alloc (.cells #[.int .i64 y.p, .int .i64 y.v, .int .i64 y.r, .int .i64 y.k, .int .i64 y.d] ty)) := by
  subst hg
  refine wpList_row (w := w.alloc (.cells #[.int .i64 y.p, .int .i64 y.v, .int .i64 y.r, .int .i64 y.k, .int .i64 y.d] ty)) hgd s x 22 45 5 40 (.agg #[.int .i64 0, .int .i64 0, .int .i64 0, .int .i64 0, .int .i64 0]) ho Tryd.underlying22 infoInfo z5 (by decide) base o l.length (infV l) hs (World.ownsRow.alloc hown _) w.heap.size 1
    #[.int .i64 y.p, .int .i64 y.v, .int .i64 y.r, .int .i64 y.k, .int .i64 y.d] ty (0, 0) hx (heap_alloc_new _ _) rfl (by simp [Value.oneCell']) (by unfold maxLen; omega) (by omega) (by rw [alloc_size]; omega) fun o' w' hG => h o' w' ⟨?_, ((Below.refl _ _).alloc hbase _).trans hG.below⟩
  have := hG.own
  show w'.ownsRow base 45 5 o' (l ++ [y]).length (infV (l ++ [y]))
  rw [infV_app, List.length_append]
  exact this
end Go.Proofs.YtdpiehhblflacaaDoor
/- Infos that are equal; the reference's Same. -/
namespace Go.Proofs.YtdpiehhblflacaaDoor
open Go.RowKit Go.Deep

theorem eqFields_info (d : Nat) (x y : Inf) (w : World) : ((Op.equalIn (d + 1 + 1) 45 (.agg x.cells) (.agg y.cells)).run Tryd.prog w) = .ok (decide (x = y)) w := by
  obtain ⟨p, v, r, k, dd⟩ := x
  obtain ⟨p', v', r', k', d'⟩ := y
  have hf : (Tryd.prog.fieldsOf 45).toList.map (fun f => (f.name, f.type, f.offset)) = [("Protocol", 3, 0), ("Version", 3, 1), ("Params", 3, 2), ("Key", 3, 3), ("KeyID", 3, 4)] := by kernel_rfl
  rw [run_equalIn_struct w (d + 1) 45 _ _ (by kernel_rfl) (by kernel_rfl)]
  generalize (Tryd.prog.fieldsOf 45).toList = fs at hf
  obtain ⟨a, fs, rfl, ha, hf⟩ := List.map_eq_cons_iff.1 hf
  obtain ⟨b, fs, rfl, hb, hf⟩ := List.map_eq_cons_iff.1 hf
  obtain ⟨c, fs, rfl, hc, hf⟩ := List.map_eq_cons_iff.1 hf
  obtain ⟨e, fs, rfl, he, hf⟩ := List.map_eq_cons_iff.1 hf
  obtain ⟨f, fs, rfl, hg, hf⟩ := List.map_eq_cons_iff.1 hf
  obtain rfl := List.map_eq_nil_iff.1 hf
  simp only [Prod.mk.injEq] at ha hb hc he hg
  obtain ⟨a1, a2, a3⟩ := ha
  obtain ⟨b1, b2, b3⟩ := hb
  obtain ⟨c1, c2, c3⟩ := hc
  obtain ⟨e1, e2, e3⟩ := he
  obtain ⟨f1, f2, f3⟩ := hg
  simp only [Op.eqFields, a1, a2, a3, b1, b2, b3, c1, c2, c3, e1, e2, e3, f1, f2, f3]
  simp [Inf.cells, go_sem, run_equalIn_int, Tryd.underlying3]
  by_cases h1 : p = p' <;> by_cases h2 : v = v' <;> by_cases h3 : r = r' <;> by_cases h4 : k = k' <;> by_cases h5 : dd = d' <;> simp [h1, h2, h3, h4, h5]
theorem neq_info (x y : Inf) (w : World) : (binOp .neq 45 (.agg x.cells) (.agg y.cells)).run Tryd.prog w = .ok (.bool (!decide (x = y))) w := by
  rw [run_neq_struct, eqFields_info 9998 x y w]
  rfl
theorem eql_info (x y : Inf) (w : World) : (binOp .eql 45 (.agg x.cells) (.agg y.cells)).run Tryd.prog w = .ok (.bool (decide (x = y))) w := by
  rw [run_eql_struct, eqFields_info 9998 x y w]
  rfl
set_option maxRecDepth 100000 in
set_option maxHeartbeats 2000000 in
theorem isame_any (va vb : Value) (a b : List Inf) (S S' : Nat → Prop) (w : World) (ha : InfS w S va a) (hb : InfS w S' vb b) :
    Calls Tryd.prog 16 #[va, vb] w fun e w' => e = .returned (.bool (decide (a = b))) ∧ ∃ n, w' = w.drewN n := by
  obtain ⟨aa, ca, rfl⟩ := ha.form
  obtain ⟨ab, cb, rfl⟩ := hb.form
  have hla : a.length ≤ 3518437208883 := by obtain ⟨_, _, _, _, _, h, _⟩ := ha; exact h
  have hlb : b.length ≤ 3518437208883 := by obtain ⟨_, _, _, _, _, h, _⟩ := hb; exact h
  obtain ⟨ga, oa, hA⟩ := ha.at
  obtain ⟨gb', ob, hB⟩ := hb.at
  have HA := Lib.hid hA; have HB := Lib.hid hB
  clear ha hb hA hB
  by_cases hl : a.length = b.length
  · obtain ⟨n, hn⟩ : ∃ n, b.length = n := ⟨_, rfl⟩
    rw [hl, hn]
    rw [hn] at hlb
    have hla' : Hid (a.length = n) := Lib.hid (hl.trans hn)
    have hlb' : Hid (b.length = n) := Lib.hid hn
    clear hl hn hla
    go_enter Tryd.func16, Tryd.ntmps16
    go_wp2_with fail
    go_loopg [5] n (fun m iv wr => ∃ (D R R' : List Inf) (nd : Nat), R.length = m ∧ R'.length = m ∧ iv = .int .i64 D.length ∧ D.length + R.length = n ∧ Hid (D ++ R = a ∧ D ++ R' = b) ∧ InfsAt w R ga (oa + D.length * 5) ∧ InfsAt w R' gb' (ob + D.length * 5) ∧ wr = w.drewN nd)
    case atStart => exact ⟨[], a, b, 0, hla'.out, hlb'.out, rfl, by rw [hla'.out]; simp, Lib.hid ⟨rfl, rfl⟩, by rw [List.length_nil, Nat.zero_mul, Nat.add_zero]; exact InfsAt.zero HA.out, by rw [List.length_nil, Nat.zero_mul, Nat.add_zero]; exact InfsAt.zero HB.out, rfl⟩
    case round =>
      obtain ⟨D, R, R', nd, rfl, hr2, rfl, hj, hab, hia, hib, rfl⟩ := hrel
      cases R with
      | nil =>
        obtain rfl : R' = [] := List.eq_nil_of_length_eq_zero hr2
        have E : Hid (decide (a = b) = true) := Lib.hid (decide_eq_true (hab.out.1.symm.trans hab.out.2))
        simp only [List.length_nil, Nat.add_zero] at hj
        subst hj
        clear hia hib hr2 hab
        go_wp2_with fail
        go_ret
        exact ⟨by rw [E.out]; rfl, _, rfl⟩
      | cons x R =>
        cases R' with
        | nil => simp at hr2
        | cons y R' =>
          simp only [List.length_cons] at hr2 hj
          obtain ⟨⟨x0, x1, x2, x3, x4⟩, _, hra⟩ := hia
          obtain ⟨⟨y0, y1, y2, y3, y4⟩, _, hrb⟩ := hib
          obtain ⟨ea, _, _⟩ := HA.out (by rw [hla'.out]; omega)
          obtain ⟨eb, _, _⟩ := HB.out (by rw [hlb'.out]; omega)
          subst ea eb
          have HRA := Lib.hid hra; have HRB := Lib.hid hrb
          obtain ⟨o, ho⟩ : ∃ o, decide (x = y) = o := ⟨_, rfl⟩
          have hq := neq_info x y
          rw [ho] at hq
          obtain ⟨p, v, r, k, d⟩ := x
          obtain ⟨p', v', r', k', d'⟩ := y
          have hq' : ∀ w, (binOp .neq 45 (.agg #[.int .i64 p, .int .i64 v, .int .i64 r, .int .i64 k, .int .i64 d]) (.agg #[.int .i64 p', .int .i64 v', .int .i64 r', .int .i64 k', .int .i64 d'])).run Tryd.prog w = .ok (.bool (!o)) w := hq
          have HO := Lib.hid ho
          have hlt : D.length < n := by omega
          clear hra hrb ho hq
          go_upto_region 6 with fail
          go_quiet (fail)
          cases o with
          | true =>
            have e2 := of_decide_eq_true HO.out
            injection e2 with e1 e2 e3 e4 e5
            subst e1 e2 e3 e4 e5
            clear x0 x1 x2 x3 x4 y0 y1 y2 y3 y4 hq' HO
            go_wp2_with fail
            go_roundg R.length
            case measure => simp
            case rel => exact ⟨D ++ [⟨p, v, r, k, d⟩], R, R', nd + nq, rfl, by omega, by rw [List.length_append, List.length_singleton]; go_num, by rw [List.length_append, List.length_singleton]; omega, Lib.hid (by rw [List.append_assoc, List.append_assoc]; exact hab.out), by rw [List.length_append, List.length_singleton, show oa + (D.length + 1) * 5 = oa + D.length * 5 + 5 by omega]; exact HRA.out, by rw [List.length_append, List.length_singleton, show ob + (D.length + 1) * 5 = ob + D.length * 5 + 5 by omega]; exact HRB.out, rfl⟩
          | false =>
            have E : Hid (decide (a = b) = false) := Lib.hid (decide_eq_false (fun e => by
              have h1 := hab.out
              rw [← h1.1, ← h1.2] at e
              have := (List.append_right_inj D).1 e
              injection this with h3 h4
              exact of_decide_eq_false HO.out h3))
            clear x0 x1 x2 x3 x4 y0 y1 y2 y3 y4 hq' HO hab
            go_wp2_with fail
            go_ret
            exact ⟨by rw [E.out]; rfl, nd + nq, rfl⟩
  · have hne : ((a.length : Int) != (b.length : Int)) = true := by rw [bne_iff_ne]; omega
    have E : Hid (decide (a = b) = false) := Lib.hid (decide_eq_false (fun e => hl (by rw [e])))
    clear hl
    go_enter Tryd.func16, Tryd.ntmps16
    go_wp2_with fail
    go_ret
    exact ⟨by rw [E.out]; rfl, 0, rfl⟩
end Go.Proofs.YtdpiehhblflacaaDoor
