/- Layer 14: identifiers, both sides. -/
import Derived.Test.YtdpiehhblflacaaDoorInfP
import Derived.Test.YtdpiehhblflacaaDoorAppB
import Derived.Deep.RegionLaw
import Derived.Deep.RegionLawGrows
import Derived.Lib.SlBytesConst
namespace Go.Proofs.YtdpiehhblflacaaDoor
open Go.RowKit Go.Deep

theorem OwnB.fresh (w : World) (l : List UInt8) (xs : Array Value) (hx : xs.toList = l.map U8) (base : Nat) (hb : base ≤ w.heap.size) (hl : l.length ≤ 9223372036854775807) :
    OwnB (w.alloc (.cells xs 5)) base (.slice (some ⟨w.heap.size, 0, none⟩) l.length l.length) l := by
  have hs : xs.size = l.length := by rw [← Array.length_toList, hx]; simp
  refine ⟨by simp, .inr ⟨w.heap.size, l.length, xs, rfl, hb, heap_alloc_new _ _, Nat.le_refl _, hl, by omega, ?_⟩⟩
  rw [hx, Nat.mul_one]
  exact List.take_of_length_le (by simp)
theorem BsS.fresh (w : World) (l : List UInt8) (xs : Array Value) (t : TypeId) (hx : xs.toList = l.map U8) (S : Nat → Prop) (hS : S w.heap.size) (hl : l.length ≤ 140737488355328) :
    BsS (w.alloc (.cells xs t)) S (.slice (some ⟨w.heap.size, 0, none⟩) l.length l.length) l := by
  refine ⟨_, _, rfl, Nat.le_refl _, by omega, hl, fun _ => ⟨w.heap.size, 0, rfl, hS, fun j hj => ?_⟩⟩
  rw [Nat.zero_add, cell_of_row _ _ _ _ _ _ (heap_alloc_new _ _), ← Array.getElem?_toList, hx]
  exact mapU8_get l j hj
set_option maxRecDepth 100000 in
set_option maxHeartbeats 2000000 in
theorem rident_any (p : Int) (w : World) (hp : 2 ≤ p ∧ p ≤ 6) : Calls Tryd.prog 60 #[.int .i64 p] w fun e w' => ∃ v', e = .returned v' ∧ BsS w' (New w w') v' (identB p) ∧ Below w.heap.size w w' := by
  have H1 : OwnB (w.alloc (.cells #[.int .u8 4, .int .u8 0, .int .u8 127, .int .u8 0, .int .u8 7, .int .u8 2, .int .u8 2] 5)) w.heap.size (.slice (some ⟨w.heap.size, 0, none⟩) 7 7) preB :=
    OwnB.fresh w preB _ rfl _ (Nat.le_refl _) (by decide)
  have H2 : ∀ (x y : UInt8), OwnB ((w.alloc (.cells #[.int .u8 4, .int .u8 0, .int .u8 127, .int .u8 0, .int .u8 7, .int .u8 2, .int .u8 2] 5)).alloc (.cells #[U8 x, U8 y] 5)) w.heap.size (.slice (some ⟨w.heap.size, 0, none⟩) 7 7) preB := fun x y => H1.alloc _
  have H3 : ∀ (x y : UInt8), BsS ((w.alloc (.cells #[.int .u8 4, .int .u8 0, .int .u8 127, .int .u8 0, .int .u8 7, .int .u8 2, .int .u8 2] 5)).alloc (.cells #[U8 x, U8 y] 5)) (fun _ => True) (.slice (some ⟨w.heap.size + 1, 0, none⟩) 2 2) [x, y] := fun x y => by
    have := BsS.fresh (w.alloc (.cells #[.int .u8 4, .int .u8 0, .int .u8 127, .int .u8 0, .int .u8 7, .int .u8 2, .int .u8 2] 5)) [x, y] #[U8 x, U8 y] 5 rfl (fun _ => True) trivial (by simp)
    simpa using this
  have HB : ∀ (x y : UInt8), Below w.heap.size w ((w.alloc (.cells #[.int .u8 4, .int .u8 0, .int .u8 127, .int .u8 0, .int .u8 7, .int .u8 2, .int .u8 2] 5)).alloc (.cells #[U8 x, U8 y] 5)) := fun x y => ((Below.refl _ _).alloc (Nat.le_refl _) _).alloc (by simp) _
  have K2 := Lib.hid H2; have K3 := Lib.hid H3; have KB := Lib.hid HB
  clear H1 H2 H3 HB
  obtain rfl | rfl | rfl | rfl | rfl : p = 2 ∨ p = 3 ∨ p = 4 ∨ p = 5 ∨ p = 6 := by omega
  · clear hp
    have B1 : OwnB ((w.alloc (.cells #[.int .u8 4, .int .u8 0, .int .u8 127, .int .u8 0, .int .u8 7, .int .u8 2, .int .u8 2] 5)).alloc (.cells #[.int .u8 4, .int .u8 1] 5)) w.heap.size (.slice (some ⟨w.heap.size, 0, none⟩) 7 7) preB := K2.out 4 1
    have B2 : BsS ((w.alloc (.cells #[.int .u8 4, .int .u8 0, .int .u8 127, .int .u8 0, .int .u8 7, .int .u8 2, .int .u8 2] 5)).alloc (.cells #[.int .u8 4, .int .u8 1] 5)) (fun _ => True) (.slice (some ⟨w.heap.size + 1, 0, none⟩) 2 2) [4, 1] := K3.out 4 1
    have HZ : w.heap.size ≤ ((w.alloc (.cells #[.int .u8 4, .int .u8 0, .int .u8 127, .int .u8 0, .int .u8 7, .int .u8 2, .int .u8 2] 5)).alloc (.cells #[.int .u8 4, .int .u8 1] 5)).heap.size := by simp; omega
    have HL0 : Hid (Below w.heap.size w ((w.alloc (.cells #[.int .u8 4, .int .u8 0, .int .u8 127, .int .u8 0, .int .u8 7, .int .u8 2, .int .u8 2] 5)).alloc (.cells #[.int .u8 4, .int .u8 1] 5))) := KB.out 4 1
    go_enter Tryd.func60, Tryd.ntmps60
    go_wp2_with (at_builtin; (with_reducible refine wpList_more rfl (.tmp 8) (.tmp 9) rfl w.heap.size (.slice (some ⟨w.heap.size, 0, none⟩) 7 7) preB rfl B1 (some ⟨w.heap.size + 1, 0, none⟩) 2 2 [4, 1] _ rfl B2 (by decide) HZ ?_); intro v' w' hG; obtain ⟨oa, oc, rfl⟩ := hG.1.form; have HO := Lib.hid (hG.1.out (by simp [preB]) w (Nat.le_refl _)); have HL := Lib.hid (HL0.out.trans hG.2.1); clear hG)
    go_ret
    exact ⟨_, rfl, HO.out, HL.out⟩
  · clear hp
    have B1 : OwnB ((w.alloc (.cells #[.int .u8 4, .int .u8 0, .int .u8 127, .int .u8 0, .int .u8 7, .int .u8 2, .int .u8 2] 5)).alloc (.cells #[.int .u8 4, .int .u8 2] 5)) w.heap.size (.slice (some ⟨w.heap.size, 0, none⟩) 7 7) preB := K2.out 4 2
    have B2 : BsS ((w.alloc (.cells #[.int .u8 4, .int .u8 0, .int .u8 127, .int .u8 0, .int .u8 7, .int .u8 2, .int .u8 2] 5)).alloc (.cells #[.int .u8 4, .int .u8 2] 5)) (fun _ => True) (.slice (some ⟨w.heap.size + 1, 0, none⟩) 2 2) [4, 2] := K3.out 4 2
    have HZ : w.heap.size ≤ ((w.alloc (.cells #[.int .u8 4, .int .u8 0, .int .u8 127, .int .u8 0, .int .u8 7, .int .u8 2, .int .u8 2] 5)).alloc (.cells #[.int .u8 4, .int .u8 2] 5)).heap.size := by simp; omega
    have HL0 : Hid (Below w.heap.size w ((w.alloc (.cells #[.int .u8 4, .int .u8 0, .int .u8 127, .int .u8 0, .int .u8 7, .int .u8 2, .int .u8 2] 5)).alloc (.cells #[.int .u8 4, .int .u8 2] 5))) := KB.out 4 2
    go_enter Tryd.func60, Tryd.ntmps60
    go_wp2_with (at_builtin; (with_reducible refine wpList_more rfl (.tmp 13) (.tmp 14) rfl w.heap.size (.slice (some ⟨w.heap.size, 0, none⟩) 7 7) preB rfl B1 (some ⟨w.heap.size + 1, 0, none⟩) 2 2 [4, 2] _ rfl B2 (by decide) HZ ?_); intro v' w' hG; obtain ⟨oa, oc, rfl⟩ := hG.1.form; have HO := Lib.hid (hG.1.out (by simp [preB]) w (Nat.le_refl _)); have HL := Lib.hid (HL0.out.trans hG.2.1); clear hG)
    go_ret
    exact ⟨_, rfl, HO.out, HL.out⟩
  · clear hp
    have B1 : OwnB ((w.alloc (.cells #[.int .u8 4, .int .u8 0, .int .u8 127, .int .u8 0, .int .u8 7, .int .u8 2, .int .u8 2] 5)).alloc (.cells #[.int .u8 3, .int .u8 1] 5)) w.heap.size (.slice (some ⟨w.heap.size, 0, none⟩) 7 7) preB := K2.out 3 1
    have B2 : BsS ((w.alloc (.cells #[.int .u8 4, .int .u8 0, .int .u8 127, .int .u8 0, .int .u8 7, .int .u8 2, .int .u8 2] 5)).alloc (.cells #[.int .u8 3, .int .u8 1] 5)) (fun _ => True) (.slice (some ⟨w.heap.size + 1, 0, none⟩) 2 2) [3, 1] := K3.out 3 1
    have HZ : w.heap.size ≤ ((w.alloc (.cells #[.int .u8 4, .int .u8 0, .int .u8 127, .int .u8 0, .int .u8 7, .int .u8 2, .int .u8 2] 5)).alloc (.cells #[.int .u8 3, .int .u8 1] 5)).heap.size := by simp; omega
    have HL0 : Hid (Below w.heap.size w ((w.alloc (.cells #[.int .u8 4, .int .u8 0, .int .u8 127, .int .u8 0, .int .u8 7, .int .u8 2, .int .u8 2] 5)).alloc (.cells #[.int .u8 3, .int .u8 1] 5))) := KB.out 3 1
    go_enter Tryd.func60, Tryd.ntmps60
    go_wp2_with (at_builtin; (with_reducible refine wpList_more rfl (.tmp 18) (.tmp 19) rfl w.heap.size (.slice (some ⟨w.heap.size, 0, none⟩) 7 7) preB rfl B1 (some ⟨w.heap.size + 1, 0, none⟩) 2 2 [3, 1] _ rfl B2 (by decide) HZ ?_); intro v' w' hG; obtain ⟨oa, oc, rfl⟩ := hG.1.form; have HO := Lib.hid (hG.1.out (by simp [preB]) w (Nat.le_refl _)); have HL := Lib.hid (HL0.out.trans hG.2.1); clear hG)
    go_ret
    exact ⟨_, rfl, HO.out, HL.out⟩
  · clear hp
    have B1 : OwnB ((w.alloc (.cells #[.int .u8 4, .int .u8 0, .int .u8 127, .int .u8 0, .int .u8 7, .int .u8 2, .int .u8 2] 5)).alloc (.cells #[.int .u8 2, .int .u8 1] 5)) w.heap.size (.slice (some ⟨w.heap.size, 0, none⟩) 7 7) preB := K2.out 2 1
    have B2 : BsS ((w.alloc (.cells #[.int .u8 4, .int .u8 0, .int .u8 127, .int .u8 0, .int .u8 7, .int .u8 2, .int .u8 2] 5)).alloc (.cells #[.int .u8 2, .int .u8 1] 5)) (fun _ => True) (.slice (some ⟨w.heap.size + 1, 0, none⟩) 2 2) [2, 1] := K3.out 2 1
    have HZ : w.heap.size ≤ ((w.alloc (.cells #[.int .u8 4, .int .u8 0, .int .u8 127, .int .u8 0, .int .u8 7, .int .u8 2, .int .u8 2] 5)).alloc (.cells #[.int .u8 2, .int .u8 1] 5)).heap.size := by simp; omega
    have HL0 : Hid (Below w.heap.size w ((w.alloc (.cells #[.int .u8 4, .int .u8 0, .int .u8 127, .int .u8 0, .int .u8 7, .int .u8 2, .int .u8 2] 5)).alloc (.cells #[.int .u8 2, .int .u8 1] 5))) := KB.out 2 1
    go_enter Tryd.func60, Tryd.ntmps60
    go_wp2_with (at_builtin; (with_reducible refine wpList_more rfl (.tmp 23) (.tmp 24) rfl w.heap.size (.slice (some ⟨w.heap.size, 0, none⟩) 7 7) preB rfl B1 (some ⟨w.heap.size + 1, 0, none⟩) 2 2 [2, 1] _ rfl B2 (by decide) HZ ?_); intro v' w' hG; obtain ⟨oa, oc, rfl⟩ := hG.1.form; have HO := Lib.hid (hG.1.out (by simp [preB]) w (Nat.le_refl _)); have HL := Lib.hid (HL0.out.trans hG.2.1); clear hG)
    go_ret
    exact ⟨_, rfl, HO.out, HL.out⟩
  · clear hp
    have B1 : OwnB ((w.alloc (.cells #[.int .u8 4, .int .u8 0, .int .u8 127, .int .u8 0, .int .u8 7, .int .u8 2, .int .u8 2] 5)).alloc (.cells #[.int .u8 5, .int .u8 1] 5)) w.heap.size (.slice (some ⟨w.heap.size, 0, none⟩) 7 7) preB := K2.out 5 1
    have B2 : BsS ((w.alloc (.cells #[.int .u8 4, .int .u8 0, .int .u8 127, .int .u8 0, .int .u8 7, .int .u8 2, .int .u8 2] 5)).alloc (.cells #[.int .u8 5, .int .u8 1] 5)) (fun _ => True) (.slice (some ⟨w.heap.size + 1, 0, none⟩) 2 2) [5, 1] := K3.out 5 1
    have HZ : w.heap.size ≤ ((w.alloc (.cells #[.int .u8 4, .int .u8 0, .int .u8 127, .int .u8 0, .int .u8 7, .int .u8 2, .int .u8 2] 5)).alloc (.cells #[.int .u8 5, .int .u8 1] 5)).heap.size := by simp; omega
    have HL0 : Hid (Below w.heap.size w ((w.alloc (.cells #[.int .u8 4, .int .u8 0, .int .u8 127, .int .u8 0, .int .u8 7, .int .u8 2, .int .u8 2] 5)).alloc (.cells #[.int .u8 5, .int .u8 1] 5))) := KB.out 5 1
    go_enter Tryd.func60, Tryd.ntmps60
    go_wp2_with (at_builtin; (with_reducible refine wpList_more rfl (.tmp 26) (.tmp 27) rfl w.heap.size (.slice (some ⟨w.heap.size, 0, none⟩) 7 7) preB rfl B1 (some ⟨w.heap.size + 1, 0, none⟩) 2 2 [5, 1] _ rfl B2 (by decide) HZ ?_); intro v' w' hG; obtain ⟨oa, oc, rfl⟩ := hG.1.form; have HO := Lib.hid (hG.1.out (by simp [preB]) w (Nat.le_refl _)); have HL := Lib.hid (HL0.out.trans hG.2.1); clear hG)
    go_ret
    exact ⟨_, rfl, HO.out, HL.out⟩
/-- The table of endings, as the world holds it. -/
def endT : List UInt8 := [0, 0, 0, 0, 4, 1, 4, 2, 3, 1, 2, 1, 5, 1]
def TabE (w : World) : Prop := ∀ i, i < 14 → w.cell? ⟨0, i, none⟩ = some (U8 (gb endT i))
theorem TabE.below {w w' : World} {B : Nat} (h : TabE w) (hb : Below B w w') (hB : 0 < B) : TabE w' := fun i hi => (hb.cell (p := ⟨0, i, none⟩) hB).trans (h i hi)
theorem TabE.lt {w : World} (h : TabE w) : 0 < w.heap.size := block_lt_of_cell (h 0 (by omega))
theorem run_const_mid (w : World) (B : Obj) (t e : TypeId) (C : Array Value) (n c : Nat) (ht : Tryd.prog.underlying t = some (.slice e)) (he : Tryd.prog.underlying e = some (.int .u8)) :
    (convert t t (.slice (some ⟨w.heap.size, 0, none⟩) n c)).run Tryd.prog ((w.alloc (.cells C e)).alloc B) = .ok (.slice (some ⟨w.heap.size, 0, none⟩) n c) ((w.alloc (.cells C e (C.size, C.size + 1))).alloc B) := by
  have hb : ((w.alloc (.cells C e)).alloc B).heap[w.heap.size]? = some (.cells C e) := by
    show ((w.heap.push (.cells C e)).push B)[w.heap.size]? = _
    simp [Array.getElem?_push]
  have hsh : ((w.alloc (.cells C e)).alloc B).shape? w.heap.size = some (e, C.size) := by
    unfold World.shape?
    rw [hb]
  have hfr : ∀ (k : Nat), ((w.alloc (.cells C e)).alloc B).freeze ⟨w.heap.size, k, none⟩ 1 = (w.alloc (.cells C e (k, k + 1))).alloc B := fun k => by
    have hm : ∀ (a : Array Obj) (x : Obj) (f : Obj → Obj), ((a.push x).push B).modify a.size f = (a.push (f x)).push B := by
      intro a x f
      apply Array.ext
      · simp
      · intro i h1 h2
        simp only [Array.getElem_modify, Array.getElem_push]
        by_cases h : a.size = i
        · subst h
          simp
        · simp only [if_neg h, Array.size_push]
          by_cases h3 : i < a.size + 1
          · have hi : i < a.size := by omega
            simp [h3, hi]
          · simp [h3]
    unfold World.freeze
    rw [if_neg (by decide)]
    show ({ (w.alloc (.cells C e)).alloc B with heap := ((w.heap.push (.cells C e)).push B).modify w.heap.size _ } : World) = _
    rw [hm]
    rfl
  simp [convert, run_underlying ht, run_underlying he, markStringish, hsh]
  exact hfr _
theorem cells_of_row {w : World} {g : Nat} {C : Array Value} {t : TypeId} {f : Nat × Nat} (h : w.heap[g]? = some (.cells C t f)) (l : List Value) (hl : C.toList = l) : ∀ j u, l[j]? = some u → w.cell? ((⟨g, 0, none⟩ : Addr).add j) = some u := by
  intro j u hu
  subst hl
  rw [addr_add]
  simp [World.cell?, h]
  simpa using hu
/-- Behind the append of an identifier's ending, in whatever order its two rows were laid. -/
theorem step_ident {ops : Array Oper} {o : Oper} {a : Act} {w W : World} {K : Act → World → Prop} {Q : Exit → Act → World → Prop} {E : Prop} (hgd : o.guard = none) (s x : Operand)
    (ho : o.op = .call { callee := .builtin .append, args := #[s, x], argTypes := #[23, 23] }) (u v : UInt8) (g g2 : Nat)
    (hs : a.eval s = .slice (some ⟨g, 0, none⟩) 7 7) (hx : a.eval x = .slice (some ⟨g2, 0, none⟩) 2 2) (hW : ∃ f, W.heap[g]? = some (.cells #[.int .u8 4, .int .u8 0, .int .u8 127, .int .u8 0, .int .u8 7, .int .u8 2, .int .u8 2] 5 f))
    (hW2 : W.heap[g2]? = some (.cells #[U8 u, U8 v] 5)) (hB : Below w.heap.size w W)
    (h : ∀ A c w', BsS w' (New w w') (.slice A 9 c) (preB ++ [u, v]) → Below w.heap.size w w' → K (a.put o.dst (.slice A 9 c)) w') :
    if Region.wanted o (yielded ops a.tmps) = true then Oper.wp Tryd.prog o a W K Q else E := by
  obtain ⟨i, hi, hzz⟩ := Option.map_eq_some_iff.1 infoU8
  simp only [Prod.mk.injEq] at hzz
  obtain ⟨hz, hsize, hbb⟩ := hzz
  obtain ⟨f, hW⟩ := hW
  refine step_append_grows hgd s x 23 ho 5 i _ 1 1 Tryd.underlying23 hi hz hsize hbb rfl (by decide) (some ⟨g, 0, none⟩) 7 7 (preB.map U8) hs (fun e => by cases e) rfl (fun b hb => by
    injection hb with hb; subst hb; exact cells_of_row hW _ rfl) ⟨g2, 0, none⟩ 2 2 [U8 u, U8 v] hx rfl (cells_of_row hW2 _ rfl) (by simp [Value.oneCell']) (by decide) (by decide) (by decide) fun v' w' hown hg => ?_
  have hO : OwnB w' W.heap.size v' (preB ++ [u, v]) := hown
  obtain ⟨A, c, rfl⟩ := hO.form
  exact h A c w' (hO.out (by simp [preB]) w hB.size) (hB.trans ⟨hg.os, hg.tape, hg.output, hg.size, fun b hb => hg.block b (Nat.lt_of_lt_of_le hb hB.size) (by simp)⟩)
set_option maxRecDepth 100000 in
set_option maxHeartbeats 2000000 in
theorem ident_any (p : Int) (w : World) (hp : 2 ≤ p ∧ p ≤ 6) (hT : TabE w) : Calls Tryd.prog 45 #[.int .i64 p] w fun e w' => ∃ v', e = .returned v' ∧ BsS w' (New w w') v' (identB p) ∧ Below w.heap.size w w' := by
  obtain ⟨n, x, y, rfl, hn0, hn, c0, c1, hxy⟩ : ∃ (n : Nat) (x y : UInt8), p = n ∧ 2 ≤ n ∧ n ≤ 6 ∧ w.cell? ⟨0, n * 2, none⟩ = some (U8 x) ∧ w.cell? ⟨0, n * 2 + 1, none⟩ = some (U8 y) ∧ identB p = preB ++ [x, y] := by
    obtain rfl | rfl | rfl | rfl | rfl : p = 2 ∨ p = 3 ∨ p = 4 ∨ p = 5 ∨ p = 6 := by omega
    · exact ⟨2, 4, 1, rfl, by omega, by omega, hT 4 (by omega), hT 5 (by omega), rfl⟩
    · exact ⟨3, 4, 2, rfl, by omega, by omega, hT 6 (by omega), hT 7 (by omega), rfl⟩
    · exact ⟨4, 3, 1, rfl, by omega, by omega, hT 8 (by omega), hT 9 (by omega), rfl⟩
    · exact ⟨5, 2, 1, rfl, by omega, by omega, hT 10 (by omega), hT 11 (by omega), rfl⟩
    · exact ⟨6, 5, 1, rfl, by omega, by omega, hT 12 (by omega), hT 13 (by omega), rfl⟩
  rw [hxy]
  clear hT hp hxy
  have k1 := fun (w : World) (C : Array Value) (n c : Nat) => Lib.run_convert_bytes_const (P := Tryd.prog) w 23 5 C n c Tryd.underlying23 Tryd.underlying5
  have k2 := fun (w : World) (B : Obj) (C : Array Value) (n c : Nat) => run_const_mid w B 23 5 C n c Tryd.underlying23 Tryd.underlying5
  have k3 : ∀ (w : World) (B : Obj) (C : Array Value) (n c : Nat), (convert 23 23 (.slice (some ⟨w.heap.size + 1, 0, none⟩) n c)).run Tryd.prog ((w.alloc B).alloc (.cells C 5)) = .ok (.slice (some ⟨w.heap.size + 1, 0, none⟩) n c) ((w.alloc B).alloc (.cells C 5 (C.size, C.size + 1))) := fun w B C n c => by
    have := k1 (w.alloc B) C n c
    simpa using this
  have k4 : ∀ (w : World) (C : Array Value) (n c : Nat), (convert 23 23 (.slice (some ⟨w.heap.size, 0, none⟩) n c)).run Tryd.prog (w.alloc (.cells C 5)).drew = .ok (.slice (some ⟨w.heap.size, 0, none⟩) n c) (w.alloc (.cells C 5 (C.size, C.size + 1))).drew := fun w C n c => k1 w.drew C n c
  have k5 : ∀ (w : World) (B : Obj) (C : Array Value) (n c : Nat), (convert 23 23 (.slice (some ⟨w.heap.size, 0, none⟩) n c)).run Tryd.prog ((w.alloc (.cells C 5)).alloc B).drew = .ok (.slice (some ⟨w.heap.size, 0, none⟩) n c) ((w.alloc (.cells C 5 (C.size, C.size + 1))).alloc B).drew := fun w B C n c => k2 w.drew B C n c
  have k6 : ∀ (w : World) (B : Obj) (C : Array Value) (n c : Nat), (convert 23 23 (.slice (some ⟨w.heap.size + 1, 0, none⟩) n c)).run Tryd.prog ((w.alloc B).alloc (.cells C 5)).drew = .ok (.slice (some ⟨w.heap.size + 1, 0, none⟩) n c) ((w.alloc B).alloc (.cells C 5 (C.size, C.size + 1))).drew := fun w B C n c => k3 w.drew B C n c
  clear k1 k2 k3
  have hb0 : 0 < w.heap.size := block_lt_of_cell c0
  have d0 : ∀ X, (w.alloc X).drew.cell? ⟨0, n * 2, none⟩ = some (U8 x) := fun X => ((Below.refl w.heap.size w).alloc (Nat.le_refl _) X).cell (p := ⟨0, n * 2, none⟩) hb0 |>.trans c0
  have d1 : ∀ X, (w.alloc X).drew.cell? ⟨0, n * 2 + 1, none⟩ = some (U8 y) := fun X => ((Below.refl w.heap.size w).alloc (Nat.le_refl _) X).cell (p := ⟨0, n * 2 + 1, none⟩) hb0 |>.trans c1
  have hn7 : (n : Int) < 7 := by omega
  have F1 : ∃ f, (((w.alloc (.cells #[.int .u8 4, .int .u8 0, .int .u8 127, .int .u8 0, .int .u8 7, .int .u8 2, .int .u8 2] 5 (7, 8))).alloc (.cells #[U8 x, U8 y] 5)).drew).heap[w.heap.size]? = some (.cells #[.int .u8 4, .int .u8 0, .int .u8 127, .int .u8 0, .int .u8 7, .int .u8 2, .int .u8 2] 5 f) := ⟨(7, 8), by show ((w.heap.push _).push _)[w.heap.size]? = _; simp [Array.getElem?_push]⟩
  have F2 : (((w.alloc (.cells #[.int .u8 4, .int .u8 0, .int .u8 127, .int .u8 0, .int .u8 7, .int .u8 2, .int .u8 2] 5 (7, 8))).alloc (.cells #[U8 x, U8 y] 5)).drew).heap[w.heap.size + 1]? = some (.cells #[U8 x, U8 y] 5) := by show ((w.heap.push _).push _)[w.heap.size + 1]? = _; simp [Array.getElem_push]
  have F3 : Below w.heap.size w (((w.alloc (.cells #[.int .u8 4, .int .u8 0, .int .u8 127, .int .u8 0, .int .u8 7, .int .u8 2, .int .u8 2] 5 (7, 8))).alloc (.cells #[U8 x, U8 y] 5)).drew) := (((Below.refl _ _).alloc (Nat.le_refl _) _).alloc (by simp) _).drew
  have G1 : ∃ f, (((w.alloc (.cells #[U8 x, U8 y] 5)).alloc (.cells #[.int .u8 4, .int .u8 0, .int .u8 127, .int .u8 0, .int .u8 7, .int .u8 2, .int .u8 2] 5 (7, 8))).drew).heap[w.heap.size + 1]? = some (.cells #[.int .u8 4, .int .u8 0, .int .u8 127, .int .u8 0, .int .u8 7, .int .u8 2, .int .u8 2] 5 f) := ⟨(7, 8), by show ((w.heap.push _).push _)[w.heap.size + 1]? = _; simp [Array.getElem_push]⟩
  have G2 : (((w.alloc (.cells #[U8 x, U8 y] 5)).alloc (.cells #[.int .u8 4, .int .u8 0, .int .u8 127, .int .u8 0, .int .u8 7, .int .u8 2, .int .u8 2] 5 (7, 8))).drew).heap[w.heap.size]? = some (.cells #[U8 x, U8 y] 5) := by show ((w.heap.push _).push _)[w.heap.size]? = _; simp [Array.getElem?_push]
  have G3 : Below w.heap.size w (((w.alloc (.cells #[U8 x, U8 y] 5)).alloc (.cells #[.int .u8 4, .int .u8 0, .int .u8 127, .int .u8 0, .int .u8 7, .int .u8 2, .int .u8 2] 5 (7, 8))).drew) := (((Below.refl _ _).alloc (Nat.le_refl _) _).alloc (by simp) _).drew
  have E1 := Lib.hid F1; have E2 := Lib.hid F2; have E3 := Lib.hid F3; have E4 := Lib.hid G1; have E5 := Lib.hid G2; have E6 := Lib.hid G3
  clear F1 F2 F3 G1 G2 G3
  go_enter Tryd.func45, Tryd.ntmps45
  go_wp2_with fail
  go_region_law (first
    | (refine step_ident rfl (.tmp 4) (.tmp 13) rfl x y w.heap.size (w.heap.size + 1) rfl rfl E1.out E2.out E3.out ?_; intro A c w' h1 h2; have HO := Lib.hid h1; have HL := Lib.hid h2; clear h1 h2)
    | (refine step_ident rfl (.tmp 4) (.tmp 13) rfl x y (w.heap.size + 1) w.heap.size rfl rfl E4.out E5.out E6.out ?_; intro A c w' h1 h2; have HO := Lib.hid h1; have HL := Lib.hid h2; clear h1 h2))
  all_goals (go_wp2_with fail; go_ret; exact ⟨_, rfl, HO.out, HL.out⟩)
end Go.Proofs.YtdpiehhblflacaaDoor
