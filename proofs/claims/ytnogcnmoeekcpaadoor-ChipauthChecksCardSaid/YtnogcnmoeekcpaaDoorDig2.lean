/- Digest: the walk of Compress. -/
import Derived.Test.YtnogcnmoeekcpaaDoorDig1
import Derived.Test.YtnogcnmoeekcpaaDoorReg
import Derived.KernelRfl
namespace Go.Proofs.YtnogcnmoeekcpaaDoor
open Go.RowKit Go.Deep

/-- The tables of constants. -/
def KD (w : World) : Prop := ∀ j, j < 64 → w.cell? ⟨0, j, none⟩ = some (W32 (kTab.getD j 0))
theorem KD.below {w w' : World} {B : Nat} (h : KD w) (hb : Below B w w') (hB : 0 < B) : KD w' := fun j hj => (hb.cell (p := ⟨0, j, none⟩) hB).trans (h j hj)
theorem KD.lt {w : World} (h : KD w) : 0 < w.heap.size := block_lt_of_cell (h 0 (by omega))
theorem array8 (g : Nat) (w : World) : (Instr.arrayAt 74 (.slice (some ⟨g, 0, none⟩) 8 8)).run Tryd.prog w = .ok (.pointer (some ⟨g, 0, none⟩)) w := by kernel_rfl
theorem make8w (w : World) : (Instr.makeSlice 55 (.int .i64 8) (.int .i64 8)).run Tryd.prog w = .ok (.slice (some ⟨w.heap.size, 0, none⟩) 8 8) (w.alloc (.cells #[.int .u32 0, .int .u32 0, .int .u32 0, .int .u32 0, .int .u32 0, .int .u32 0, .int .u32 0, .int .u32 0] 62)) := by kernel_rfl
/-- The words so far, and zeros behind them. -/
def wArr (n : Nat) (l : List UInt32) : Array Value := ((l ++ List.replicate (n - l.length) 0).map W32).toArray
theorem wArr_get {w : World} {g m : Nat} {t : TypeId} {l : List UInt32} {f : Nat × Nat} (h : w.heap[g]? = some (.cells (wArr m l) t f)) {j : Nat} (hj : j < l.length) : w.cell? ⟨g, j, none⟩ = some (W32 (l.getD j 0)) := by
  rw [cell_of_row _ _ _ _ _ _ h]
  simp [wArr, List.getElem?_append, hj]
theorem wArr_room {w : World} {g m : Nat} {t : TypeId} {l : List UInt32} (hl : l.length < m) (h : w.heap[g]? = some (.cells (wArr m l) t (0, 0))) : w.cell? ⟨g, l.length, none⟩ = some (W32 0) ∧ w.frozen? ⟨g, l.length, none⟩ = false := by
  refine ⟨?_, by simp [World.frozen?, h]⟩
  rw [cell_of_row _ _ _ _ _ _ h]
  obtain ⟨n, hn⟩ : ∃ n, m - l.length = n + 1 := ⟨m - l.length - 1, by omega⟩
  simp [wArr, hn, List.replicate_succ]
theorem row_put {w : World} {g o : Nat} {C : Array Value} {t : TypeId} {f : Nat × Nat} {v : Value} (h : w.heap[g]? = some (.cells C t f)) : (w.setCell ⟨g, o, none⟩ v).heap[g]? = some (.cells (C.set! o v) t f) := by
  unfold World.setCell
  simp [Array.getElem?_modify, h]
theorem wArr_push {w : World} {g m : Nat} {t : TypeId} {l : List UInt32} {x : UInt32} (hl : l.length < m) (h : w.heap[g]? = some (.cells (wArr m l) t (0, 0))) : (w.setCell ⟨g, l.length, none⟩ (W32 x)).heap[g]? = some (.cells (wArr m (l ++ [x])) t (0, 0)) := by
  have h2 := row_put (o := l.length) (v := W32 x) h
  rw [h2]
  have e : (wArr m l).set! l.length (W32 x) = wArr m (l ++ [x]) := by
    apply Array.ext'
    simp only [wArr, Array.set!_eq_setIfInBounds, Array.toList_setIfInBounds, List.length_append, List.length_singleton]
    obtain ⟨n, hn⟩ : ∃ n, m - l.length = n + 1 := ⟨m - l.length - 1, by omega⟩
    have hn2 : m - (l.length + 1) = n := by omega
    rw [hn, hn2, List.replicate_succ]
    simp
  rw [e]
theorem eight_set {w : World} {p : Nat} {a b c d e f g h : Value} {t : TypeId} (hh : w.heap[p]? = some (.cells #[a, b, c, d, e, f, g, h] t (0, 0))) :
    w.cell? ⟨p, 0, none⟩ = some a ∧ w.cell? ⟨p, 1, none⟩ = some b ∧ w.cell? ⟨p, 2, none⟩ = some c ∧ w.cell? ⟨p, 3, none⟩ = some d ∧ w.cell? ⟨p, 4, none⟩ = some e ∧ w.cell? ⟨p, 5, none⟩ = some f ∧ w.cell? ⟨p, 6, none⟩ = some g ∧ w.cell? ⟨p, 7, none⟩ = some h ∧ ∀ o, w.frozen? ⟨p, o, none⟩ = false := by
  have key : ∀ o v, #[a, b, c, d, e, f, g, h][o]? = some v → w.cell? ⟨p, o, none⟩ = some v := fun o v e => by rw [cell_of_row _ _ _ _ _ _ hh]; exact e
  exact ⟨key 0 _ rfl, key 1 _ rfl, key 2 _ rfl, key 3 _ rfl, key 4 _ rfl, key 5 _ rfl, key 6 _ rfl, key 7 _ rfl, fun o => by simp [World.frozen?, hh]⟩
theorem eight_get {w : World} {p : Nat} {s : St8} {t : TypeId} (hh : w.heap[p]? = some (.cells s.cells t (0, 0))) {j : Nat} (hj : j < 8) : w.cell? ⟨p, j, none⟩ = some (W32 (s.list.getD j 0)) := by
  rw [cell_of_row _ _ _ _ _ _ hh]
  obtain rfl | rfl | rfl | rfl | rfl | rfl | rfl | rfl : j = 0 ∨ j = 1 ∨ j = 2 ∨ j = 3 ∨ j = 4 ∨ j = 5 ∨ j = 6 ∨ j = 7 := by omega
  all_goals rfl
theorem comp_take (s : St8) (b : List UInt8) {t : Nat} (ht : t < 8) : (compW s b).list.take (t + 1) = (compW s b).list.take t ++ [s.list.getD t 0 + (roundsW b s 64).list.getD t 0] := by
  unfold compW
  obtain ⟨r, hr⟩ : ∃ r, roundsW b s 64 = r := ⟨_, rfl⟩
  rw [hr]
  obtain rfl | rfl | rfl | rfl | rfl | rfl | rfl | rfl : t = 0 ∨ t = 1 ∨ t = 2 ∨ t = 3 ∨ t = 4 ∨ t = 5 ∨ t = 6 ∨ t = 7 := by omega
  all_goals rfl
def set8 (w : World) (g : Nat) (x : St8) : World := (((((((w.setCell ⟨g, 0, none⟩ (W32 x.a)).setCell ⟨g, 1, none⟩ (W32 x.b)).setCell ⟨g, 2, none⟩ (W32 x.c)).setCell ⟨g, 3, none⟩ (W32 x.d)).setCell ⟨g, 4, none⟩ (W32 x.e)).setCell ⟨g, 5, none⟩ (W32 x.f)).setCell ⟨g, 6, none⟩ (W32 x.g)).setCell ⟨g, 7, none⟩ (W32 x.h)
theorem set8_row {w : World} {p : Nat} {a b c d e f g h : Value} {t : TypeId} (x : St8) (hh : w.heap[p]? = some (.cells #[a, b, c, d, e, f, g, h] t (0, 0))) : (set8 w p x).heap[p]? = some (.cells x.cells t (0, 0)) := by
  have h1 := row_put (o := 0) (v := W32 x.a) hh
  simp only [Array.set!_eq_setIfInBounds, List.setIfInBounds_toArray, List.set_cons_zero] at h1
  have h2 := row_put (o := 1) (v := W32 x.b) h1
  simp only [Array.set!_eq_setIfInBounds, List.setIfInBounds_toArray, List.set_cons_succ, List.set_cons_zero] at h2
  have h3 := row_put (o := 2) (v := W32 x.c) h2
  simp only [Array.set!_eq_setIfInBounds, List.setIfInBounds_toArray, List.set_cons_succ, List.set_cons_zero] at h3
  have h4 := row_put (o := 3) (v := W32 x.d) h3
  simp only [Array.set!_eq_setIfInBounds, List.setIfInBounds_toArray, List.set_cons_succ, List.set_cons_zero] at h4
  have h5 := row_put (o := 4) (v := W32 x.e) h4
  simp only [Array.set!_eq_setIfInBounds, List.setIfInBounds_toArray, List.set_cons_succ, List.set_cons_zero] at h5
  have h6 := row_put (o := 5) (v := W32 x.f) h5
  simp only [Array.set!_eq_setIfInBounds, List.setIfInBounds_toArray, List.set_cons_succ, List.set_cons_zero] at h6
  have h7 := row_put (o := 6) (v := W32 x.g) h6
  simp only [Array.set!_eq_setIfInBounds, List.setIfInBounds_toArray, List.set_cons_succ, List.set_cons_zero] at h7
  have h8 := row_put (o := 7) (v := W32 x.h) h7
  simp only [Array.set!_eq_setIfInBounds, List.setIfInBounds_toArray, List.set_cons_succ, List.set_cons_zero] at h8
  exact h8
theorem set8_below {w w' : World} {B g : Nat} {x : St8} (h : Below B w w') (hg : B ≤ g) : Below B w (set8 w' g x) := (((((((h.setCell hg _).setCell hg _).setCell hg _).setCell hg _).setCell hg _).setCell hg _).setCell hg _).setCell hg _
set_option maxRecDepth 100000 in
set_option maxHeartbeats 8000000 in
theorem compress_any (s : St8) (b : List UInt8) (vs vb : Value) (S S' : Nat → Prop) (w : World) (hK : KD w) (hs : StS w S vs s) (hb : BsS w S' vb b) (hl : b.length = 64) :
    Calls Tryd.prog 50 #[vs, vb] w fun e w' => ∃ v', e = .returned (.tuple #[v', .int .i64 0]) ∧ StS w' (New w w') v' (compW s b) ∧ Below w.heap.size w w' := by
  obtain ⟨gs, rfl, _, hgs⟩ := hs
  obtain ⟨bn, cb, rfl, hbc, hbc2, _, hcell⟩ := hb
  rw [hl] at hbc hcell ⊢
  obtain ⟨bb, bo, rfl, ⟨_, hbl⟩, hcell⟩ : ∃ bb bo, bn = some ⟨bb, bo, none⟩ ∧ (S' bb ∧ bb < w.heap.size) ∧ ∀ j, j < 64 → w.cell? ⟨bb, bo + j, none⟩ = some (U8 (gb b j)) := by
    obtain ⟨bb, bo, h1, h2, h3⟩ := hcell (by omega)
    exact ⟨bb, bo, h1, ⟨h2, block_lt_of_cell (h3 0 (by omega))⟩, h3⟩
  have HGS := Lib.hid hgs; have HCB := Lib.hid hcell; have HK := Lib.hid hK
  have HM := make8w
  have HA8 := array8
  have hgl := (Array.getElem?_eq_some_iff.1 hgs).1
  obtain ⟨w0, hw0⟩ : ∃ w0, w0 = w.alloc (.cells #[.int .u32 0, .int .u32 0, .int .u32 0, .int .u32 0, .int .u32 0, .int .u32 0, .int .u32 0, .int .u32 0, .int .u32 0, .int .u32 0, .int .u32 0, .int .u32 0, .int .u32 0, .int .u32 0, .int .u32 0, .int .u32 0, .int .u32 0, .int .u32 0, .int .u32 0, .int .u32 0, .int .u32 0, .int .u32 0, .int .u32 0, .int .u32 0, .int .u32 0, .int .u32 0, .int .u32 0, .int .u32 0, .int .u32 0, .int .u32 0, .int .u32 0, .int .u32 0, .int .u32 0, .int .u32 0, .int .u32 0, .int .u32 0, .int .u32 0, .int .u32 0, .int .u32 0, .int .u32 0, .int .u32 0, .int .u32 0, .int .u32 0, .int .u32 0, .int .u32 0, .int .u32 0, .int .u32 0, .int .u32 0, .int .u32 0, .int .u32 0, .int .u32 0, .int .u32 0, .int .u32 0, .int .u32 0, .int .u32 0, .int .u32 0, .int .u32 0, .int .u32 0, .int .u32 0, .int .u32 0, .int .u32 0, .int .u32 0, .int .u32 0, .int .u32 0] 72) := ⟨_, rfl⟩
  have hB0 : Below w.heap.size w w0 := by rw [hw0]; exact (Below.refl _ _).alloc (Nat.le_refl _) _
  have hh0 : w0.heap[w.heap.size]? = some (.cells (wArr 64 []) 72 (0, 0)) := by rw [hw0]; exact heap_alloc_new _ _
  have HW0 := Lib.hid hw0; have HB0 := Lib.hid hB0; have HH0 := Lib.hid hh0
  clear hgs hcell hK hw0 hB0 hh0
  go_enter Tryd.func50, Tryd.ntmps50
  go_upto_region 5 with fail
  rw [← HW0.out]
  clear HW0
  go_wp2_with fail
  go_loopg [27] 64 (fun m0 iv wr => ∃ t m : Nat, m = m0 ∧ t + m = 64 ∧ iv = .int .i64 t ∧ Hid (wr.heap[w.heap.size]? = some (.cells (wArr 64 (schedF b t)) 72 (0, 0))) ∧ Below w.heap.size w wr)
  case atStart => exact ⟨0, 64, rfl, rfl, rfl, HH0, HB0.out⟩
  case round =>
    obtain ⟨t, m, rfl, htm, rfl, HWB, hbr⟩ := hrel
    by_cases hm0 : m = 0
    · subst hm0
      obtain rfl : t = 64 := by omega
      clear htm
      obtain ⟨wo, rfl⟩ : ∃ wo : World, wo = wr := ⟨_, rfl⟩
      have hgso := (hbr.block gs hgl).trans HGS.out
      obtain ⟨s0, s1, s2, s3, s4, s5, s6, s7, _⟩ := eight_set hgso
      have HBR := Lib.hid hbr
      have HSZ := Lib.hid hbr.size
      clear hbr hgso
      go_upto_region 14 with fail
      obtain ⟨w2, hw2⟩ : ∃ w2, w2 = wo.alloc (.cells #[W32 s.a, W32 s.b, W32 s.c, W32 s.d, W32 s.e, W32 s.f, W32 s.g, W32 s.h] 74) := ⟨_, rfl⟩
      rw [← hw2]
      have HW2 : Hid (w2.heap[wo.heap.size]? = some (.cells (roundsW b s 0).cells 74 (0, 0)) ∧ Below wo.heap.size wo w2) := Lib.hid ⟨by rw [hw2]; exact heap_alloc_new _ _, by rw [hw2]; exact (Below.refl _ _).alloc (Nat.le_refl _) _⟩
      clear hw2 s0 s1 s2 s3 s4 s5 s6 s7
      go_wp2_with fail
      go_loopg [78] 64 (fun m0 iv wr => ∃ t m : Nat, m = m0 ∧ t + m = 64 ∧ iv = .int .i64 t ∧ Hid (wr.heap[wo.heap.size]? = some (.cells (roundsW b s t).cells 74 (0, 0))) ∧ Below wo.heap.size wo wr)
      case atStart => exact ⟨0, 64, rfl, rfl, rfl, HW2.out.1, HW2.out.2⟩
      case round =>
        obtain ⟨t, m, rfl, htm, rfl, HVB, hbw⟩ := hrel
        have HBW := Lib.hid hbw
        clear hbw
        by_cases hm0 : m = 0
        · subst hm0
          obtain rfl : t = 64 := by omega
          clear htm
          obtain ⟨wb, rfl⟩ : ∃ wb : World, wb = wr := ⟨_, rfl⟩
          go_upto_region 23 with fail
          obtain ⟨w3, hw3⟩ : ∃ w3, w3 = wb.alloc (.cells #[.int .u32 0, .int .u32 0, .int .u32 0, .int .u32 0, .int .u32 0, .int .u32 0, .int .u32 0, .int .u32 0] 62) := ⟨_, rfl⟩
          rw [← hw3]
          have HW3 : Hid (w3.heap[wb.heap.size]? = some (.cells (wArr 8 []) 62 (0, 0)) ∧ Below wb.heap.size wb w3) := Lib.hid ⟨by rw [hw3]; exact heap_alloc_new _ _, by rw [hw3]; exact (Below.refl _ _).alloc (Nat.le_refl _) _⟩
          clear hw3
          go_wp2_with fail
          go_loopg [155] 8 (fun m0 iv wr => ∃ t m : Nat, m = m0 ∧ t + m = 8 ∧ iv = .int .i64 t ∧ Hid (wr.heap[wb.heap.size]? = some (.cells (wArr 8 ((compW s b).list.take t)) 62 (0, 0))) ∧ Below wb.heap.size wb wr)
          case atStart => exact ⟨0, 8, rfl, rfl, rfl, HW3.out.1, HW3.out.2⟩
          case round =>
            obtain ⟨t, m, rfl, htm, rfl, HOB, hbo⟩ := hrel
            have HBO := Lib.hid hbo
            clear hbo
            by_cases hm0 : m = 0
            · subst hm0
              obtain rfl : t = 8 := by omega
              clear htm
              go_wp2_with fail
              go_ret2
              have hsz := HBW.out.size
              have hszo := HSZ.out
              have hlt := (Array.getElem?_eq_some_iff.1 HOB.out).1
              refine ⟨_, rfl, ⟨wb.heap.size, rfl, ⟨by omega, hlt⟩, HOB.out⟩, HBR.out.trans ((HBW.out.trans (HBO.out.mono hsz)).mono hszo)⟩
            · obtain ⟨m, rfl⟩ : ∃ k, m = k + 1 := ⟨m - 1, by omega⟩
              have ht8 : t < 8 := by omega
              have htl : (t : Int) < 8 := by omega
              have hbWo := HBW.out.trans (HBO.out.mono HBW.out.size)
              obtain ⟨x, hx⟩ : ∃ x, s.list.getD t 0 = x := ⟨_, rfl⟩
              obtain ⟨y, hy⟩ : ∃ y, (roundsW b s 64).list.getD t 0 = y := ⟨_, rfl⟩
              have cx : wr.cell? ⟨gs, t, none⟩ = some (W32 x) := by
                rw [← hx]
                exact eight_get ((hbWo.block gs (Nat.lt_of_lt_of_le hgl HSZ.out)).trans ((HBR.out.block gs hgl).trans HGS.out)) ht8
              have cy : wr.cell? ⟨wo.heap.size, t, none⟩ = some (W32 y) := by
                rw [← hy]
                exact eight_get ((HBO.out.block wo.heap.size (Array.getElem?_eq_some_iff.1 HVB.out).1).trans HVB.out) ht8
              have HL8 : Hid ((compW s b).list.take (t + 1) = (compW s b).list.take t ++ [x + y]) := Lib.hid (by
                rw [← hx, ← hy]
                exact comp_take s b ht8)
              have hlen : ((compW s b).list.take t).length = t := by rw [List.length_take]; exact Nat.min_eq_left (Nat.le_of_lt ht8)
              have HLEN := Lib.hid hlen
              obtain ⟨sc, sf⟩ := wArr_room (by rw [hlen]; exact ht8) HOB.out
              rw [hlen] at sc sf
              clear hx hy hlen hbWo
              go_upto_region 26 with fail
              refine wp_region_still_tail 11 (by kernel_rfl) (by kernel_rfl) ?_
              simp only [List.take_succ_cons, List.take_zero, List.drop_succ_cons, List.drop_zero]
              repeat (refine wpStill_step (fun K hK => ?_); go_simp; (refine hK _ ?_; clear hK K))
              refine wpStill_nil ?_
              go_wp2_with fail
              go_roundg m
              case measure => omega
              case rel => exact ⟨t + 1, m, rfl, by omega, by go_num, Lib.hid (by
                rw [HL8.out]
                have h := wArr_push (w := wr.drew) (x := x + y) (by rw [HLEN.out]; exact ht8) HOB.out
                rw [HLEN.out] at h
                exact h), (HBO.out.drew).setCell (p := ⟨wb.heap.size, t, none⟩) (Nat.le_refl _) _⟩
        · obtain ⟨m, rfl⟩ : ∃ k, m = k + 1 := ⟨m - 1, by omega⟩
          have ht64 : t < 64 := by omega
          have htl : (t : Int) < 64 := by omega
          have HT64 := Lib.hid htl
          obtain ⟨k, hk⟩ : ∃ k, kTab.getD t 0 = k := ⟨_, rfl⟩
          obtain ⟨wt, hwt⟩ : ∃ k, (schedF b 64).getD t 0 = k := ⟨_, rfl⟩
          have HKW : Hid (kTab.getD t 0 = k ∧ (schedF b 64).getD t 0 = wt) := Lib.hid ⟨hk, hwt⟩
          obtain ⟨⟨ra, rb, rc, rd, re, rf, rg, rh⟩, hrs⟩ : ∃ r, roundsW b s t = r := ⟨_, rfl⟩
          have HRS := Lib.hid hrs
          rw [hrs] at HVB
          have HV : Hid (∀ W, Below wr.heap.size wr W → W.cell? ⟨wo.heap.size, 0, none⟩ = some (W32 ra) ∧ W.cell? ⟨wo.heap.size, 1, none⟩ = some (W32 rb) ∧ W.cell? ⟨wo.heap.size, 2, none⟩ = some (W32 rc) ∧ W.cell? ⟨wo.heap.size, 3, none⟩ = some (W32 rd) ∧ W.cell? ⟨wo.heap.size, 4, none⟩ = some (W32 re) ∧ W.cell? ⟨wo.heap.size, 5, none⟩ = some (W32 rf) ∧ W.cell? ⟨wo.heap.size, 6, none⟩ = some (W32 rg) ∧ W.cell? ⟨wo.heap.size, 7, none⟩ = some (W32 rh) ∧ W.cell? ⟨0, t, none⟩ = some (W32 k) ∧ W.cell? ⟨w.heap.size, t, none⟩ = some (W32 wt)) := Lib.hid (fun W h => by
            obtain ⟨p0, p1, p2, p3, p4, p5, p6, p7, _⟩ := eight_set ((h.block wo.heap.size (Array.getElem?_eq_some_iff.1 HVB.out).1).trans HVB.out)
            have hbWo : Below wo.heap.size wo W := HBW.out.trans (h.mono HBW.out.size)
            refine ⟨p0, p1, p2, p3, p4, p5, p6, p7, ?_, ?_⟩
            · rw [← hk]; exact (HK.out.below (HBR.out.trans (hbWo.mono HSZ.out)) HK.out.lt t ht64)
            · rw [← hwt]; exact (hbWo.cell (p := ⟨w.heap.size, t, none⟩) (Array.getElem?_eq_some_iff.1 HWB.out).1).trans (wArr_get HWB.out (by rw [schedF_len]; exact ht64)))
          obtain ⟨p0, _, _, _, p4, _⟩ := HV.out wr (Below.refl _ _)
          clear hk hwt hrs ht64
          go_upto_region 17 with fail
          go_quiet (fail)
          clear p0 p4
          go_upto_region 18 with fail
          refine wp_region_rg 26 [some 85, some 86, some 87, some 88, some 89, some 90, some 91, some 92, some 93, some 94, some 95, some 96, some 97, some 98, some 99, some 100, some 101, some 102, some 103, some 104, some 105, some 106, some 107, some 108, some 109, some 110] [[], [0], [], [], [], [2, 3, 4], [0, 1, 2, 3, 4, 5], [], [], [8], [7, 8, 9], [], [11], [], [13], [11, 12, 13, 14], [7, 8, 9, 10, 11, 12, 13, 14, 15], [0, 1, 2, 3, 4, 5, 6, 7, 8, 9, 10, 11, 12, 13, 14, 15, 16], [], [18], [18, 19], [0, 1, 2, 3, 4, 5, 6, 7, 8, 9, 10, 11, 12, 13, 14, 15, 16, 17, 18, 19, 20], [], [22], [22, 23], [0, 1, 2, 3, 4, 5, 6, 7, 8, 9, 10, 11, 12, 13, 14, 15, 16, 17, 18, 19, 20, 21, 22, 23, 24]]
            (fun _ _ w1 => Below wr.heap.size wr w1) (fun w1 w2 => Below w1.heap.size w1 w2)
            [fun v _ => v 0 = .pointer (some ⟨wo.heap.size, 7, none⟩),
             fun v _ => v 1 = W32 rh,
             fun v _ => v 2 = .func (.func 63) #[] #[],
             fun v _ => v 3 = W32 re,
             fun v w1 => ∃ q, v 4 = .slice (some ⟨q, 0, none⟩) 3 3 ∧ w1.heap[q]? = some (.cells #[.int .i64 6, .int .i64 11, .int .i64 25] 3 (0, 0)),
             fun v _ => v 5 = W32 (rot3 re 6 11 25),
             fun v _ => v 6 = W32 (rh + rot3 re 6 11 25),
             fun v _ => v 7 = W32 re,
             fun v _ => v 8 = .pointer (some ⟨wo.heap.size, 5, none⟩),
             fun v _ => v 9 = W32 rf,
             fun v _ => v 10 = W32 (re &&& rf),
             fun v _ => v 11 = W32 re,
             fun v _ => v 12 = W32 (ofW 4294967295 ^^^ re),
             fun v _ => v 13 = .pointer (some ⟨wo.heap.size, 6, none⟩),
             fun v _ => v 14 = W32 rg,
             fun v _ => v 15 = W32 ((ofW 4294967295 ^^^ re) &&& rg),
             fun v _ => v 16 = W32 ((re &&& rf) ^^^ ((ofW 4294967295 ^^^ re) &&& rg)),
             fun v _ => v 17 = W32 (rh + rot3 re 6 11 25 + ((re &&& rf) ^^^ ((ofW 4294967295 ^^^ re) &&& rg))),
             fun v _ => v 18 = .int .i64 (t : Int),
             fun v _ => v 19 = .pointer (some ⟨0, t, none⟩),
             fun v _ => v 20 = W32 k,
             fun v _ => v 21 = W32 (rh + rot3 re 6 11 25 + ((re &&& rf) ^^^ ((ofW 4294967295 ^^^ re) &&& rg)) + k),
             fun v _ => v 22 = .int .i64 (t : Int),
             fun v _ => v 23 = .pointer (some ⟨w.heap.size, t, none⟩),
             fun v _ => v 24 = W32 wt,
             fun v _ => v 25 = W32 (rh + rot3 re 6 11 25 + ((re &&& rf) ^^^ ((ofW 4294967295 ^^^ re) &&& rg)) + k + wt)]
            (by kernel_rfl) (by kernel_rfl) (fun _ => (below_drewN (Below.refl _ _) nq).drew) ?st ?steps ?tail
          case st =>
            exact (.cons (fun _ _ _ _ _ _ h => h) (.cons (fun _ _ _ _ _ _ h => h) (.cons (fun _ _ _ _ _ _ h => h) (.cons (fun _ _ _ _ _ _ h => h) (.cons (fun _ _ _ _ _ hr ⟨q, e, h⟩ => ⟨q, e, (hr.block q (Array.getElem?_eq_some_iff.1 h).1).trans h⟩) (.cons (fun _ _ _ _ _ _ h => h) (.cons (fun _ _ _ _ _ _ h => h) (.cons (fun _ _ _ _ _ _ h => h) (.cons (fun _ _ _ _ _ _ h => h) (.cons (fun _ _ _ _ _ _ h => h) (.cons (fun _ _ _ _ _ _ h => h) (.cons (fun _ _ _ _ _ _ h => h) (.cons (fun _ _ _ _ _ _ h => h) (.cons (fun _ _ _ _ _ _ h => h) (.cons (fun _ _ _ _ _ _ h => h) (.cons (fun _ _ _ _ _ _ h => h) (.cons (fun _ _ _ _ _ _ h => h) (.cons (fun _ _ _ _ _ _ h => h) (.cons (fun _ _ _ _ _ _ h => h) (.cons (fun _ _ _ _ _ _ h => h) (.cons (fun _ _ _ _ _ _ h => h) (.cons (fun _ _ _ _ _ _ h => h) (.cons (fun _ _ _ _ _ _ h => h) (.cons (fun _ _ _ _ _ _ h => h) (.cons (fun _ _ _ _ _ _ h => h) (.cons (fun _ _ _ _ _ _ h => h) .nil))))))))))))))))))))))))))
          case steps =>
            simp only [List.take_succ_cons, List.take_zero]
            refine (.cons ?_ (.cons ?_ (.cons ?_ (.cons ?_ (.cons ?_ (.cons ?_ (.cons ?_ (.cons ?_ (.cons ?_ (.cons ?_ (.cons ?_ (.cons ?_ (.cons ?_ (.cons ?_ (.cons ?_ (.cons ?_ (.cons ?_ (.cons ?_ (.cons ?_ (.cons ?_ (.cons ?_ (.cons ?_ (.cons ?_ (.cons ?_ (.cons ?_ (.cons ?_ .nil))))))))))))))))))))))))))
            all_goals (intro L v w1 hJ hL hA hF K hK; simp only [fillRG, Act.put, Nat.zero_add, Nat.reduceAdd, List.setIfInBounds_toArray, List.set_cons_zero, List.set_cons_succ] at hK ⊢)
            · go_simp
              refine hK _ _ hJ (Below.refl _ _) ?_
              first | exact rfl | exact val_mod _
            · have e0 : v 0 = .pointer (some ⟨wo.heap.size, 7, none⟩) := hF 0 (hA 0 (by simp))
              obtain ⟨p0, p1, p2, p3, p4, p5, p6, p7, pk, pw⟩ := HV.out _ hJ
              simp only [e0] at hK
              go_simp
              refine hK _ _ hJ (Below.refl _ _) ?_
              first | exact rfl | exact val_mod _
            · go_simp
              refine hK _ _ hJ (Below.refl _ _) ?_
              first | exact rfl | exact val_mod _
            · go_simp
              refine hK _ _ hJ (Below.refl _ _) ?_
              first | exact rfl | exact val_mod _
            · go_simp
              exact hK _ _ (hJ.alloc hJ.size _) ((Below.refl _ _).alloc (Nat.le_refl _) _) ⟨_, rfl, heap_alloc_new _ _⟩
            · have e2 : v 2 = .func (.func 63) #[] #[] := hF 2 (hA 2 (by simp))
              have e3 : v 3 = W32 re := hF 3 (hA 3 (by simp))
              simp only [e2, e3] at hK
              obtain ⟨q, e4, hq⟩ : ∃ q, v 4 = .slice (some ⟨q, 0, none⟩) 3 3 ∧ w1.heap[q]? = some (.cells #[.int .i64 6, .int .i64 11, .int .i64 25] 3 (0, 0)) := hF 4 (hA 4 (by simp))
              simp only [e4] at hK
              go_simp
              refine (rot_any re [6, 11, 25] q w1 (by simp) (by simp) hq).mono ?_
              rintro e w5 ⟨rfl, hw5⟩
              rw [hw5, rots3]
              exact hK _ _ hJ (Below.refl _ _) rfl
            · have e1 : v 1 = W32 rh := hF 1 (hA 1 (by simp))
              have e5 : v 5 = W32 (rot3 re 6 11 25) := hF 5 (hA 5 (by simp))
              simp only [e1, e5] at hK
              go_simp
              refine hK _ _ hJ (Below.refl _ _) ?_
              first | exact rfl | exact val_mod _
            · go_simp
              refine hK _ _ hJ (Below.refl _ _) ?_
              first | exact rfl | exact val_mod _
            · go_simp
              refine hK _ _ hJ (Below.refl _ _) ?_
              first | exact rfl | exact val_mod _
            · have e8 : v 8 = .pointer (some ⟨wo.heap.size, 5, none⟩) := hF 8 (hA 8 (by simp))
              obtain ⟨p0, p1, p2, p3, p4, p5, p6, p7, pk, pw⟩ := HV.out _ hJ
              simp only [e8] at hK
              go_simp
              refine hK _ _ hJ (Below.refl _ _) ?_
              first | exact rfl | exact val_mod _
            · have e7 : v 7 = W32 re := hF 7 (hA 7 (by simp))
              have e9 : v 9 = W32 rf := hF 9 (hA 9 (by simp))
              simp only [e7, e9] at hK
              go_simp
              refine hK _ _ hJ (Below.refl _ _) ?_
              first | exact rfl | exact val_mod _
            · go_simp
              refine hK _ _ hJ (Below.refl _ _) ?_
              first | exact rfl | exact val_mod _
            · have e11 : v 11 = W32 re := hF 11 (hA 11 (by simp))
              simp only [e11] at hK
              go_simp
              refine hK _ _ hJ (Below.refl _ _) ?_
              first | exact rfl | exact val_mod _
            · go_simp
              refine hK _ _ hJ (Below.refl _ _) ?_
              first | exact rfl | exact val_mod _
            · have e13 : v 13 = .pointer (some ⟨wo.heap.size, 6, none⟩) := hF 13 (hA 13 (by simp))
              obtain ⟨p0, p1, p2, p3, p4, p5, p6, p7, pk, pw⟩ := HV.out _ hJ
              simp only [e13] at hK
              go_simp
              refine hK _ _ hJ (Below.refl _ _) ?_
              first | exact rfl | exact val_mod _
            · have e12 : v 12 = W32 (ofW 4294967295 ^^^ re) := hF 12 (hA 12 (by simp))
              have e14 : v 14 = W32 rg := hF 14 (hA 14 (by simp))
              simp only [e12, e14] at hK
              go_simp
              refine hK _ _ hJ (Below.refl _ _) ?_
              first | exact rfl | exact val_mod _
            · have e10 : v 10 = W32 (re &&& rf) := hF 10 (hA 10 (by simp))
              have e15 : v 15 = W32 ((ofW 4294967295 ^^^ re) &&& rg) := hF 15 (hA 15 (by simp))
              simp only [e10, e15] at hK
              go_simp
              refine hK _ _ hJ (Below.refl _ _) ?_
              first | exact rfl | exact val_mod _
            · have e6 : v 6 = W32 (rh + rot3 re 6 11 25) := hF 6 (hA 6 (by simp))
              have e16 : v 16 = W32 ((re &&& rf) ^^^ ((ofW 4294967295 ^^^ re) &&& rg)) := hF 16 (hA 16 (by simp))
              simp only [e6, e16] at hK
              go_simp
              refine hK _ _ hJ (Below.refl _ _) ?_
              first | exact rfl | exact val_mod _
            · go_simp
              refine hK _ _ hJ (Below.refl _ _) ?_
              first | exact rfl | exact val_mod _
            · have e18 : v 18 = .int .i64 (t : Int) := hF 18 (hA 18 (by simp))
              have h64 : (t : Int) < 64 := HT64.out
              simp only [e18] at hK
              go_simp
              refine hK _ _ hJ (Below.refl _ _) ?_
              first | exact rfl | exact val_mod _
            · have e19 : v 19 = .pointer (some ⟨0, t, none⟩) := hF 19 (hA 19 (by simp))
              obtain ⟨p0, p1, p2, p3, p4, p5, p6, p7, pk, pw⟩ := HV.out _ hJ
              simp only [e19] at hK
              go_simp
              refine hK _ _ hJ (Below.refl _ _) ?_
              first | exact rfl | exact val_mod _
            · have e17 : v 17 = W32 (rh + rot3 re 6 11 25 + ((re &&& rf) ^^^ ((ofW 4294967295 ^^^ re) &&& rg))) := hF 17 (hA 17 (by simp))
              have e20 : v 20 = W32 k := hF 20 (hA 20 (by simp))
              simp only [e17, e20] at hK
              go_simp
              refine hK _ _ hJ (Below.refl _ _) ?_
              first | exact rfl | exact val_mod _
            · go_simp
              refine hK _ _ hJ (Below.refl _ _) ?_
              first | exact rfl | exact val_mod _
            · have e22 : v 22 = .int .i64 (t : Int) := hF 22 (hA 22 (by simp))
              have h64 : (t : Int) < 64 := HT64.out
              simp only [e22] at hK
              go_simp
              refine hK _ _ hJ (Below.refl _ _) ?_
              first | exact rfl | exact val_mod _
            · have e23 : v 23 = .pointer (some ⟨w.heap.size, t, none⟩) := hF 23 (hA 23 (by simp))
              obtain ⟨p0, p1, p2, p3, p4, p5, p6, p7, pk, pw⟩ := HV.out _ hJ
              simp only [e23] at hK
              go_simp
              refine hK _ _ hJ (Below.refl _ _) ?_
              first | exact rfl | exact val_mod _
            · have e21 : v 21 = W32 (rh + rot3 re 6 11 25 + ((re &&& rf) ^^^ ((ofW 4294967295 ^^^ re) &&& rg)) + k) := hF 21 (hA 21 (by simp))
              have e24 : v 24 = W32 wt := hF 24 (hA 24 (by simp))
              simp only [e21, e24] at hK
              go_simp
              refine hK _ _ hJ (Below.refl _ _) ?_
              first | exact rfl | exact val_mod _
          case tail =>
            intro v w1 hJ hF
            have e0 : v 0 = .pointer (some ⟨wo.heap.size, 7, none⟩) := hF 0 (by simp)
            have e1 : v 1 = W32 rh := hF 1 (by simp)
            have e2 : v 2 = .func (.func 63) #[] #[] := hF 2 (by simp)
            have e3 : v 3 = W32 re := hF 3 (by simp)
            have e5 : v 5 = W32 (rot3 re 6 11 25) := hF 5 (by simp)
            have e6 : v 6 = W32 (rh + rot3 re 6 11 25) := hF 6 (by simp)
            have e7 : v 7 = W32 re := hF 7 (by simp)
            have e8 : v 8 = .pointer (some ⟨wo.heap.size, 5, none⟩) := hF 8 (by simp)
            have e9 : v 9 = W32 rf := hF 9 (by simp)
            have e10 : v 10 = W32 (re &&& rf) := hF 10 (by simp)
            have e11 : v 11 = W32 re := hF 11 (by simp)
            have e12 : v 12 = W32 (ofW 4294967295 ^^^ re) := hF 12 (by simp)
            have e13 : v 13 = .pointer (some ⟨wo.heap.size, 6, none⟩) := hF 13 (by simp)
            have e14 : v 14 = W32 rg := hF 14 (by simp)
            have e15 : v 15 = W32 ((ofW 4294967295 ^^^ re) &&& rg) := hF 15 (by simp)
            have e16 : v 16 = W32 ((re &&& rf) ^^^ ((ofW 4294967295 ^^^ re) &&& rg)) := hF 16 (by simp)
            have e17 : v 17 = W32 (rh + rot3 re 6 11 25 + ((re &&& rf) ^^^ ((ofW 4294967295 ^^^ re) &&& rg))) := hF 17 (by simp)
            have e18 : v 18 = .int .i64 (t : Int) := hF 18 (by simp)
            have e19 : v 19 = .pointer (some ⟨0, t, none⟩) := hF 19 (by simp)
            have e20 : v 20 = W32 k := hF 20 (by simp)
            have e21 : v 21 = W32 (rh + rot3 re 6 11 25 + ((re &&& rf) ^^^ ((ofW 4294967295 ^^^ re) &&& rg)) + k) := hF 21 (by simp)
            have e22 : v 22 = .int .i64 (t : Int) := hF 22 (by simp)
            have e23 : v 23 = .pointer (some ⟨w.heap.size, t, none⟩) := hF 23 (by simp)
            have e24 : v 24 = W32 wt := hF 24 (by simp)
            have e25 : v 25 = W32 (rh + rot3 re 6 11 25 + ((re &&& rf) ^^^ ((ofW 4294967295 ^^^ re) &&& rg)) + k + wt) := hF 25 (by simp)
            simp only [List.drop_succ_cons, List.drop_zero, fillRG, Act.put, Nat.zero_add, Nat.reduceAdd, List.setIfInBounds_toArray, List.set_cons_zero, List.set_cons_succ]
            simp only [e25]
            have H18 := Lib.hid hJ
            clear hJ hF e0 e1 e2 e3 e5 e6 e7 e8 e9 e10 e11 e12 e13 e14 e15 e16 e17 e18 e19 e20 e21 e22 e23 e24 e25
            go_upto_region 19 with fail
            refine wp_region_rg 20 [some 111, some 112, some 113, some 114, some 115, some 116, some 117, some 118, some 119, some 120, some 121, some 122, some 123, some 124, some 125, some 126, some 127, some 128, some 129, some 130] [[], [], [], [0, 1, 2], [], [], [5], [4, 5, 6], [], [], [9], [8, 9, 10], [4, 5, 6, 7, 8, 9, 10, 11], [], [13], [], [15], [13, 14, 15, 16], [4, 5, 6, 7, 8, 9, 10, 11, 12, 13, 14, 15, 16, 17], [0, 1, 2, 3, 4, 5, 6, 7, 8, 9, 10, 11, 12, 13, 14, 15, 16, 17, 18]]
              (fun _ _ w1 => Below wr.heap.size wr w1) (fun w1 w2 => Below w1.heap.size w1 w2)
              [fun v _ => v 0 = .func (.func 63) #[] #[],
               fun v _ => v 1 = W32 ra,
               fun v w1 => ∃ q, v 2 = .slice (some ⟨q, 0, none⟩) 3 3 ∧ w1.heap[q]? = some (.cells #[.int .i64 2, .int .i64 13, .int .i64 22] 3 (0, 0)),
               fun v _ => v 3 = W32 (rot3 ra 2 13 22),
               fun v _ => v 4 = W32 ra,
               fun v _ => v 5 = .pointer (some ⟨wo.heap.size, 1, none⟩),
               fun v _ => v 6 = W32 rb,
               fun v _ => v 7 = W32 (ra &&& rb),
               fun v _ => v 8 = W32 ra,
               fun v _ => v 9 = .pointer (some ⟨wo.heap.size, 2, none⟩),
               fun v _ => v 10 = W32 rc,
               fun v _ => v 11 = W32 (ra &&& rc),
               fun v _ => v 12 = W32 ((ra &&& rb) ^^^ (ra &&& rc)),
               fun v _ => v 13 = .pointer (some ⟨wo.heap.size, 1, none⟩),
               fun v _ => v 14 = W32 rb,
               fun v _ => v 15 = .pointer (some ⟨wo.heap.size, 2, none⟩),
               fun v _ => v 16 = W32 rc,
               fun v _ => v 17 = W32 (rb &&& rc),
               fun v _ => v 18 = W32 ((ra &&& rb) ^^^ (ra &&& rc) ^^^ (rb &&& rc)),
               fun v _ => v 19 = W32 (rot3 ra 2 13 22 + ((ra &&& rb) ^^^ (ra &&& rc) ^^^ (rb &&& rc)))]
              (by kernel_rfl) (by kernel_rfl) (fun _ => H18.out.drew) ?st ?steps ?tail
            case st =>
              exact (.cons (fun _ _ _ _ _ _ h => h) (.cons (fun _ _ _ _ _ _ h => h) (.cons (fun _ _ _ _ _ hr ⟨q, e, h⟩ => ⟨q, e, (hr.block q (Array.getElem?_eq_some_iff.1 h).1).trans h⟩) (.cons (fun _ _ _ _ _ _ h => h) (.cons (fun _ _ _ _ _ _ h => h) (.cons (fun _ _ _ _ _ _ h => h) (.cons (fun _ _ _ _ _ _ h => h) (.cons (fun _ _ _ _ _ _ h => h) (.cons (fun _ _ _ _ _ _ h => h) (.cons (fun _ _ _ _ _ _ h => h) (.cons (fun _ _ _ _ _ _ h => h) (.cons (fun _ _ _ _ _ _ h => h) (.cons (fun _ _ _ _ _ _ h => h) (.cons (fun _ _ _ _ _ _ h => h) (.cons (fun _ _ _ _ _ _ h => h) (.cons (fun _ _ _ _ _ _ h => h) (.cons (fun _ _ _ _ _ _ h => h) (.cons (fun _ _ _ _ _ _ h => h) (.cons (fun _ _ _ _ _ _ h => h) (.cons (fun _ _ _ _ _ _ h => h) .nil))))))))))))))))))))
            case steps =>
              simp only [List.take_succ_cons, List.take_zero]
              refine (.cons ?_ (.cons ?_ (.cons ?_ (.cons ?_ (.cons ?_ (.cons ?_ (.cons ?_ (.cons ?_ (.cons ?_ (.cons ?_ (.cons ?_ (.cons ?_ (.cons ?_ (.cons ?_ (.cons ?_ (.cons ?_ (.cons ?_ (.cons ?_ (.cons ?_ (.cons ?_ .nil))))))))))))))))))))
              all_goals (intro L v w1 hJ hL hA hF K hK; simp only [fillRG, Act.put, Nat.zero_add, Nat.reduceAdd, List.setIfInBounds_toArray, List.set_cons_zero, List.set_cons_succ] at hK ⊢)
              · go_simp
                refine hK _ _ hJ (Below.refl _ _) ?_
                first | exact rfl | exact val_mod _
              · go_simp
                refine hK _ _ hJ (Below.refl _ _) ?_
                first | exact rfl | exact val_mod _
              · go_simp
                exact hK _ _ (hJ.alloc hJ.size _) ((Below.refl _ _).alloc (Nat.le_refl _) _) ⟨_, rfl, heap_alloc_new _ _⟩
              · have e0 : v 0 = .func (.func 63) #[] #[] := hF 0 (hA 0 (by simp))
                have e1 : v 1 = W32 ra := hF 1 (hA 1 (by simp))
                simp only [e0, e1] at hK
                obtain ⟨q, e2, hq⟩ : ∃ q, v 2 = .slice (some ⟨q, 0, none⟩) 3 3 ∧ w1.heap[q]? = some (.cells #[.int .i64 2, .int .i64 13, .int .i64 22] 3 (0, 0)) := hF 2 (hA 2 (by simp))
                simp only [e2] at hK
                go_simp
                refine (rot_any ra [2, 13, 22] q w1 (by simp) (by simp) hq).mono ?_
                rintro e w5 ⟨rfl, hw5⟩
                rw [hw5, rots3]
                exact hK _ _ hJ (Below.refl _ _) rfl
              · go_simp
                refine hK _ _ hJ (Below.refl _ _) ?_
                first | exact rfl | exact val_mod _
              · go_simp
                refine hK _ _ hJ (Below.refl _ _) ?_
                first | exact rfl | exact val_mod _
              · have e5 : v 5 = .pointer (some ⟨wo.heap.size, 1, none⟩) := hF 5 (hA 5 (by simp))
                obtain ⟨p0, p1, p2, p3, p4, p5, p6, p7, pk, pw⟩ := HV.out _ hJ
                simp only [e5] at hK
                go_simp
                refine hK _ _ hJ (Below.refl _ _) ?_
                first | exact rfl | exact val_mod _
              · have e4 : v 4 = W32 ra := hF 4 (hA 4 (by simp))
                have e6 : v 6 = W32 rb := hF 6 (hA 6 (by simp))
                simp only [e4, e6] at hK
                go_simp
                refine hK _ _ hJ (Below.refl _ _) ?_
                first | exact rfl | exact val_mod _
              · go_simp
                refine hK _ _ hJ (Below.refl _ _) ?_
                first | exact rfl | exact val_mod _
              · go_simp
                refine hK _ _ hJ (Below.refl _ _) ?_
                first | exact rfl | exact val_mod _
              · have e9 : v 9 = .pointer (some ⟨wo.heap.size, 2, none⟩) := hF 9 (hA 9 (by simp))
                obtain ⟨p0, p1, p2, p3, p4, p5, p6, p7, pk, pw⟩ := HV.out _ hJ
                simp only [e9] at hK
                go_simp
                refine hK _ _ hJ (Below.refl _ _) ?_
                first | exact rfl | exact val_mod _
              · have e8 : v 8 = W32 ra := hF 8 (hA 8 (by simp))
                have e10 : v 10 = W32 rc := hF 10 (hA 10 (by simp))
                simp only [e8, e10] at hK
                go_simp
                refine hK _ _ hJ (Below.refl _ _) ?_
                first | exact rfl | exact val_mod _
              · have e7 : v 7 = W32 (ra &&& rb) := hF 7 (hA 7 (by simp))
                have e11 : v 11 = W32 (ra &&& rc) := hF 11 (hA 11 (by simp))
                simp only [e7, e11] at hK
                go_simp
                refine hK _ _ hJ (Below.refl _ _) ?_
                first | exact rfl | exact val_mod _
              · go_simp
                refine hK _ _ hJ (Below.refl _ _) ?_
                first | exact rfl | exact val_mod _
              · have e13 : v 13 = .pointer (some ⟨wo.heap.size, 1, none⟩) := hF 13 (hA 13 (by simp))
                obtain ⟨p0, p1, p2, p3, p4, p5, p6, p7, pk, pw⟩ := HV.out _ hJ
                simp only [e13] at hK
                go_simp
                refine hK _ _ hJ (Below.refl _ _) ?_
                first | exact rfl | exact val_mod _
              · go_simp
                refine hK _ _ hJ (Below.refl _ _) ?_
                first | exact rfl | exact val_mod _
              · have e15 : v 15 = .pointer (some ⟨wo.heap.size, 2, none⟩) := hF 15 (hA 15 (by simp))
                obtain ⟨p0, p1, p2, p3, p4, p5, p6, p7, pk, pw⟩ := HV.out _ hJ
                simp only [e15] at hK
                go_simp
                refine hK _ _ hJ (Below.refl _ _) ?_
                first | exact rfl | exact val_mod _
              · have e14 : v 14 = W32 rb := hF 14 (hA 14 (by simp))
                have e16 : v 16 = W32 rc := hF 16 (hA 16 (by simp))
                simp only [e14, e16] at hK
                go_simp
                refine hK _ _ hJ (Below.refl _ _) ?_
                first | exact rfl | exact val_mod _
              · have e12 : v 12 = W32 ((ra &&& rb) ^^^ (ra &&& rc)) := hF 12 (hA 12 (by simp))
                have e17 : v 17 = W32 (rb &&& rc) := hF 17 (hA 17 (by simp))
                simp only [e12, e17] at hK
                go_simp
                refine hK _ _ hJ (Below.refl _ _) ?_
                first | exact rfl | exact val_mod _
              · have e3 : v 3 = W32 (rot3 ra 2 13 22) := hF 3 (hA 3 (by simp))
                have e18 : v 18 = W32 ((ra &&& rb) ^^^ (ra &&& rc) ^^^ (rb &&& rc)) := hF 18 (hA 18 (by simp))
                simp only [e3, e18] at hK
                go_simp
                refine hK _ _ hJ (Below.refl _ _) ?_
                first | exact rfl | exact val_mod _
            case tail =>
              intro v w1 hJ hF
              have e0 : v 0 = .func (.func 63) #[] #[] := hF 0 (by simp)
              have e1 : v 1 = W32 ra := hF 1 (by simp)
              have e3 : v 3 = W32 (rot3 ra 2 13 22) := hF 3 (by simp)
              have e4 : v 4 = W32 ra := hF 4 (by simp)
              have e5 : v 5 = .pointer (some ⟨wo.heap.size, 1, none⟩) := hF 5 (by simp)
              have e6 : v 6 = W32 rb := hF 6 (by simp)
              have e7 : v 7 = W32 (ra &&& rb) := hF 7 (by simp)
              have e8 : v 8 = W32 ra := hF 8 (by simp)
              have e9 : v 9 = .pointer (some ⟨wo.heap.size, 2, none⟩) := hF 9 (by simp)
              have e10 : v 10 = W32 rc := hF 10 (by simp)
              have e11 : v 11 = W32 (ra &&& rc) := hF 11 (by simp)
              have e12 : v 12 = W32 ((ra &&& rb) ^^^ (ra &&& rc)) := hF 12 (by simp)
              have e13 : v 13 = .pointer (some ⟨wo.heap.size, 1, none⟩) := hF 13 (by simp)
              have e14 : v 14 = W32 rb := hF 14 (by simp)
              have e15 : v 15 = .pointer (some ⟨wo.heap.size, 2, none⟩) := hF 15 (by simp)
              have e16 : v 16 = W32 rc := hF 16 (by simp)
              have e17 : v 17 = W32 (rb &&& rc) := hF 17 (by simp)
              have e18 : v 18 = W32 ((ra &&& rb) ^^^ (ra &&& rc) ^^^ (rb &&& rc)) := hF 18 (by simp)
              have e19 : v 19 = W32 (rot3 ra 2 13 22 + ((ra &&& rb) ^^^ (ra &&& rc) ^^^ (rb &&& rc))) := hF 19 (by simp)
              simp only [List.drop_succ_cons, List.drop_zero, fillRG, Act.put, Nat.zero_add, Nat.reduceAdd, List.setIfInBounds_toArray, List.set_cons_zero, List.set_cons_succ]
              simp only [e19]
              have H19 := Lib.hid hJ
              have hv19 := (hJ.block wo.heap.size (Array.getElem?_eq_some_iff.1 HVB.out).1).trans HVB.out
              have HV19 := Lib.hid hv19
              obtain ⟨p0, p1, p2, p3, p4, p5, p6, p7, pf⟩ := eight_set hv19
              have pf0 := pf 0; have pf1 := pf 1; have pf2 := pf 2; have pf3 := pf 3; have pf4 := pf 4; have pf5 := pf 5; have pf6 := pf 6; have pf7 := pf 7
              clear hJ hF hv19 pf
              go_wp2_with fail
              go_roundg m
              case measure => omega
              case rel => exact ⟨t + 1, m, rfl, by omega, by go_num, Lib.hid (by
                rw [roundsW, HRS.out, HKW.out.1, HKW.out.2]
                exact set8_row ⟨rh + rot3 re 6 11 25 + ((re &&& rf) ^^^ ((ofW 4294967295 ^^^ re) &&& rg)) + k + wt + (rot3 ra 2 13 22 + ((ra &&& rb) ^^^ (ra &&& rc) ^^^ (rb &&& rc))), ra, rb, rc, rd + (rh + rot3 re 6 11 25 + ((re &&& rf) ^^^ ((ofW 4294967295 ^^^ re) &&& rg)) + k + wt), re, rf, rg⟩ HV19.out), set8_below (x := ⟨rh + rot3 re 6 11 25 + ((re &&& rf) ^^^ ((ofW 4294967295 ^^^ re) &&& rg)) + k + wt + (rot3 ra 2 13 22 + ((ra &&& rb) ^^^ (ra &&& rc) ^^^ (rb &&& rc))), ra, rb, rc, rd + (rh + rot3 re 6 11 25 + ((re &&& rf) ^^^ ((ofW 4294967295 ^^^ re) &&& rg)) + k + wt), re, rf, rg⟩) (HBW.out.trans (H19.out.mono HBW.out.size)) (Nat.le_refl _)⟩
    · obtain ⟨m, rfl⟩ : ∃ k, m = k + 1 := ⟨m - 1, by omega⟩
      have ht64 : t < 64 := by omega
      have htl : (t : Int) < 64 := by omega
      by_cases h16 : t < 16
      · have hd16 : (t : Int) < 16 := by omega
        have hq : ∀ i, i < 4 → wr.cell? ⟨bb, bo + 4 * t + i, none⟩ = some (U8 (gb b (4 * t + i))) := fun i hi => by
          rw [Nat.add_assoc]
          exact (hbr.cell (p := ⟨bb, bo + (4 * t + i), none⟩) hbl).trans (HCB.out (4 * t + i) (by omega))
        have HQ := Lib.hid (word_any bb (bo + 4 * t) (64 - 4 * t) (cb - 4 * t) _ _ _ _ wr (by omega) (hq 0 (by omega)) (hq 1 (by omega)) (hq 2 (by omega)) (hq 3 (by omega)))
        have HNX : Hid (nextW b (schedF b t) = wordB (gb b (4 * t + 0)) (gb b (4 * t + 1)) (gb b (4 * t + 2)) (gb b (4 * t + 3))) := Lib.hid (by
          unfold nextW; rw [schedF_len, if_pos h16]; rfl)
        have h4c : 4 * t < cb := by omega
        have h4 : (4 : Int) * t ≤ 64 := by omega
        obtain ⟨sc, sf⟩ := wArr_room (by rw [schedF_len]; exact ht64) HWB.out
        rw [schedF_len] at sc sf
        clear hq
        go_wp2_with (go_at_call 65; refine HQ.out.mono ?_; rintro e w5 ⟨rfl, nd, rfl⟩)
        go_roundg m
        case measure => omega
        case rel => exact ⟨t + 1, m, rfl, by omega, by go_num, Lib.hid (by
          have h := wArr_push (w := wr.drewN nd) (x := wordB (gb b (4 * t + 0)) (gb b (4 * t + 1)) (gb b (4 * t + 2)) (gb b (4 * t + 3))) (by rw [schedF_len]; exact ht64) HWB.out
          rw [schedF_len] at h
          rw [schedF, HNX.out]; exact h), (below_drewN hbr nd).setCell (p := ⟨w.heap.size, t, none⟩) (Nat.le_refl _) _⟩
      · obtain ⟨t15, q15⟩ : ∃ k, t = k + 15 := ⟨t - 15, by omega⟩
        obtain ⟨t2, q2⟩ : ∃ k, t = k + 2 := ⟨t - 2, by omega⟩
        obtain ⟨t7, q7⟩ : ∃ k, t = k + 7 := ⟨t - 7, by omega⟩
        obtain ⟨t16, q16⟩ : ∃ k, t = k + 16 := ⟨t - 16, by omega⟩
        have W15 : Value.int .i64 (IntKind.i64.wrap ((t : Int) - 15)) = .int .i64 (t15 : Int) := by rw [IntWalk.i64_in _ (by omega)]; congr 1; omega
        have W2 : Value.int .i64 (IntKind.i64.wrap ((t : Int) - 2)) = .int .i64 (t2 : Int) := by rw [IntWalk.i64_in _ (by omega)]; congr 1; omega
        have W7 : Hid (Value.int .i64 (IntKind.i64.wrap ((t : Int) - 7)) = .int .i64 (t7 : Int)) := Lib.hid (by rw [IntWalk.i64_in _ (by omega)]; congr 1; omega)
        have W16 : Hid (Value.int .i64 (IntKind.i64.wrap ((t : Int) - 16)) = .int .i64 (t16 : Int)) := Lib.hid (by rw [IntWalk.i64_in _ (by omega)]; congr 1; omega)
        obtain ⟨x, hx⟩ : ∃ x, (schedF b t).getD t15 0 = x := ⟨_, rfl⟩
        obtain ⟨y, hy⟩ : ∃ x, (schedF b t).getD t2 0 = x := ⟨_, rfl⟩
        obtain ⟨z7, hz7⟩ : ∃ x, (schedF b t).getD t7 0 = x := ⟨_, rfl⟩
        obtain ⟨z16, hz16⟩ : ∃ x, (schedF b t).getD t16 0 = x := ⟨_, rfl⟩
        have c15 := wArr_get HWB.out (j := t15) (by rw [schedF_len]; omega)
        have c2 := wArr_get HWB.out (j := t2) (by rw [schedF_len]; omega)
        have c7 := wArr_get HWB.out (j := t7) (by rw [schedF_len]; omega)
        have c16 := wArr_get HWB.out (j := t16) (by rw [schedF_len]; omega)
        rw [hx] at c15
        rw [hy] at c2
        rw [hz7] at c7
        rw [hz16] at c16
        have hgw := (Array.getElem?_eq_some_iff.1 HWB.out).1
        have C7 : Hid (∀ W nd, Below (wr.drewN nd).heap.size (wr.drewN nd) W → W.cell? ⟨w.heap.size, t7, none⟩ = some (W32 z7)) := Lib.hid (fun W nd h => (h.cell (p := ⟨w.heap.size, t7, none⟩) hgw).trans c7)
        have C16 : Hid (∀ W nd, Below (wr.drewN nd).heap.size (wr.drewN nd) W → W.cell? ⟨w.heap.size, t16, none⟩ = some (W32 z16)) := Lib.hid (fun W nd h => (h.cell (p := ⟨w.heap.size, t16, none⟩) hgw).trans c16)
        have HNX : Hid (nextW b (schedF b t) = ((rotW y 17 ^^^ rotW y 19) ^^^ (y / ofW 1024)) + z7 + ((rotW x 7 ^^^ rotW x 18) ^^^ (x / ofW 8)) + z16) := Lib.hid (by
          unfold nextW
          rw [schedF_len, if_neg h16, show t - 2 = t2 by omega, show t - 7 = t7 by omega, show t - 15 = t15 by omega, show t - 16 = t16 by omega, hx, hy, hz7, hz16])
        have H7 : Hid (t7 < 64) := Lib.hid (by omega)
        have H16 : Hid (t16 < 64) := Lib.hid (by omega)
        have h15 : t15 < 64 := by omega
        have h2 : t2 < 64 := by omega
        have hd16 : decide ((t : Int) < 16) = false := decide_eq_false (by omega)
        have HBR := Lib.hid hbr
        clear hx hy hz7 hz16 c7 c16 hgw q15 q2 q7 q16 hbr
        go_upto_region 10 with fail
        go_quiet (fail)
        clear W15 W2 c15 c2
        go_upto_region 11 with fail
        refine wp_region_rg 26 [some 47, some 48, some 49, some 50, some 51, some 52, some 53, some 54, some 55, some 56, some 57, some 58, some 59, some 60, some 61, some 62, some 63, some 64, some 65, some 66, some 67, some 68, some 69, some 70, some 71, some 72] [[], [], [], [], [1, 2, 3], [], [5], [1, 2, 3, 4, 5, 6], [], [8], [8, 9], [8, 9, 10], [1, 2, 3, 4, 5, 6, 7, 8, 9, 10, 11], [], [], [], [1, 2, 3, 4, 13, 14, 15], [], [17], [1, 2, 3, 4, 13, 14, 15, 16, 17, 18], [1, 2, 3, 4, 5, 6, 7, 8, 9, 10, 11, 12, 13, 14, 15, 16, 17, 18, 19], [], [21], [21, 22], [21, 22, 23], [1, 2, 3, 4, 5, 6, 7, 8, 9, 10, 11, 12, 13, 14, 15, 16, 17, 18, 19, 20, 21, 22, 23, 24]]
          (fun _ _ w1 => Below (wr.drewN nq).heap.size (wr.drewN nq) w1) (fun w1 w2 => Below w1.heap.size w1 w2)
          [fun v _ => v 0 = .int .i64 (t : Int),
           fun v _ => v 1 = .func (.func 63) #[] #[],
           fun v _ => v 2 = W32 y,
           fun v w1 => ∃ q, v 3 = .slice (some ⟨q, 0, none⟩) 2 2 ∧ w1.heap[q]? = some (.cells #[.int .i64 17, .int .i64 19] 3 (0, 0)),
           fun v _ => v 4 = W32 (rotW y 17 ^^^ rotW y 19),
           fun v _ => v 5 = W32 y,
           fun v _ => v 6 = W32 (y / ofW 1024),
           fun v _ => v 7 = W32 ((rotW y 17 ^^^ rotW y 19) ^^^ (y / ofW 1024)),
           fun v _ => v 8 = .int .i64 (t : Int),
           fun v _ => v 9 = .int .i64 (t7 : Int),
           fun v _ => v 10 = .pointer (some ⟨w.heap.size, t7, none⟩),
           fun v _ => v 11 = W32 z7,
           fun v _ => v 12 = W32 (((rotW y 17 ^^^ rotW y 19) ^^^ (y / ofW 1024)) + z7),
           fun v _ => v 13 = .func (.func 63) #[] #[],
           fun v _ => v 14 = W32 x,
           fun v w1 => ∃ q, v 15 = .slice (some ⟨q, 0, none⟩) 2 2 ∧ w1.heap[q]? = some (.cells #[.int .i64 7, .int .i64 18] 3 (0, 0)),
           fun v _ => v 16 = W32 (rotW x 7 ^^^ rotW x 18),
           fun v _ => v 17 = W32 x,
           fun v _ => v 18 = W32 (x / ofW 8),
           fun v _ => v 19 = W32 ((rotW x 7 ^^^ rotW x 18) ^^^ (x / ofW 8)),
           fun v _ => v 20 = W32 (((rotW y 17 ^^^ rotW y 19) ^^^ (y / ofW 1024)) + z7 + ((rotW x 7 ^^^ rotW x 18) ^^^ (x / ofW 8))),
           fun v _ => v 21 = .int .i64 (t : Int),
           fun v _ => v 22 = .int .i64 (t16 : Int),
           fun v _ => v 23 = .pointer (some ⟨w.heap.size, t16, none⟩),
           fun v _ => v 24 = W32 z16,
           fun v _ => v 25 = W32 (((rotW y 17 ^^^ rotW y 19) ^^^ (y / ofW 1024)) + z7 + ((rotW x 7 ^^^ rotW x 18) ^^^ (x / ofW 8)) + z16)]
          (by kernel_rfl) (by kernel_rfl) (fun _ => (Below.refl _ _).drew) ?st ?steps ?tail
        case st =>
          exact (.cons (fun _ _ _ _ _ _ h => h) (.cons (fun _ _ _ _ _ _ h => h) (.cons (fun _ _ _ _ _ _ h => h) (.cons (fun _ _ _ _ _ hr ⟨q, e, h⟩ => ⟨q, e, (hr.block q (Array.getElem?_eq_some_iff.1 h).1).trans h⟩) (.cons (fun _ _ _ _ _ _ h => h) (.cons (fun _ _ _ _ _ _ h => h) (.cons (fun _ _ _ _ _ _ h => h) (.cons (fun _ _ _ _ _ _ h => h) (.cons (fun _ _ _ _ _ _ h => h) (.cons (fun _ _ _ _ _ _ h => h) (.cons (fun _ _ _ _ _ _ h => h) (.cons (fun _ _ _ _ _ _ h => h) (.cons (fun _ _ _ _ _ _ h => h) (.cons (fun _ _ _ _ _ _ h => h) (.cons (fun _ _ _ _ _ _ h => h) (.cons (fun _ _ _ _ _ hr ⟨q, e, h⟩ => ⟨q, e, (hr.block q (Array.getElem?_eq_some_iff.1 h).1).trans h⟩) (.cons (fun _ _ _ _ _ _ h => h) (.cons (fun _ _ _ _ _ _ h => h) (.cons (fun _ _ _ _ _ _ h => h) (.cons (fun _ _ _ _ _ _ h => h) (.cons (fun _ _ _ _ _ _ h => h) (.cons (fun _ _ _ _ _ _ h => h) (.cons (fun _ _ _ _ _ _ h => h) (.cons (fun _ _ _ _ _ _ h => h) (.cons (fun _ _ _ _ _ _ h => h) (.cons (fun _ _ _ _ _ _ h => h) .nil))))))))))))))))))))))))))
        case steps =>
          simp only [List.take_succ_cons, List.take_zero]
          refine (.cons ?_ (.cons ?_ (.cons ?_ (.cons ?_ (.cons ?_ (.cons ?_ (.cons ?_ (.cons ?_ (.cons ?_ (.cons ?_ (.cons ?_ (.cons ?_ (.cons ?_ (.cons ?_ (.cons ?_ (.cons ?_ (.cons ?_ (.cons ?_ (.cons ?_ (.cons ?_ (.cons ?_ (.cons ?_ (.cons ?_ (.cons ?_ (.cons ?_ (.cons ?_ .nil))))))))))))))))))))))))))
          all_goals (intro L v w1 hJ hL hA hF K hK; simp only [fillRG, Act.put, Nat.zero_add, Nat.reduceAdd, List.setIfInBounds_toArray, List.set_cons_zero, List.set_cons_succ] at hK ⊢)
          · go_simp
            refine hK _ _ hJ (Below.refl _ _) ?_
            first | exact rfl | exact val_mod _
          · go_simp
            refine hK _ _ hJ (Below.refl _ _) ?_
            first | exact rfl | exact val_mod _
          · go_simp
            refine hK _ _ hJ (Below.refl _ _) ?_
            first | exact rfl | exact val_mod _
          · go_simp
            exact hK _ _ (hJ.alloc hJ.size _) ((Below.refl _ _).alloc (Nat.le_refl _) _) ⟨_, rfl, heap_alloc_new _ _⟩
          · have e1 : v 1 = .func (.func 63) #[] #[] := hF 1 (hA 1 (by simp))
            have e2 : v 2 = W32 y := hF 2 (hA 2 (by simp))
            simp only [e1, e2] at hK
            obtain ⟨q, e3, hq⟩ : ∃ q, v 3 = .slice (some ⟨q, 0, none⟩) 2 2 ∧ w1.heap[q]? = some (.cells #[.int .i64 17, .int .i64 19] 3 (0, 0)) := hF 3 (hA 3 (by simp))
            simp only [e3] at hK
            go_simp
            refine (rot_any y [17, 19] q w1 (by simp) (by simp) hq).mono ?_
            rintro e w5 ⟨rfl, hw5⟩
            rw [hw5, rots2]
            exact hK _ _ hJ (Below.refl _ _) rfl
          · go_simp
            refine hK _ _ hJ (Below.refl _ _) ?_
            first | exact rfl | exact val_mod _
          · have e5 : v 5 = W32 y := hF 5 (hA 5 (by simp))
            simp only [e5] at hK
            go_simp
            refine hK _ _ hJ (Below.refl _ _) ?_
            first | exact rfl | exact val_mod _
          · have e4 : v 4 = W32 (rotW y 17 ^^^ rotW y 19) := hF 4 (hA 4 (by simp))
            have e6 : v 6 = W32 (y / ofW 1024) := hF 6 (hA 6 (by simp))
            simp only [e4, e6] at hK
            go_simp
            refine hK _ _ hJ (Below.refl _ _) ?_
            first | exact rfl | exact val_mod _
          · go_simp
            refine hK _ _ hJ (Below.refl _ _) ?_
            first | exact rfl | exact val_mod _
          · have e8 : v 8 = .int .i64 (t : Int) := hF 8 (hA 8 (by simp))
            have W := W7.out
            simp only [e8] at hK
            go_simp
            refine hK _ _ hJ (Below.refl _ _) ?_
            first | exact rfl | exact val_mod _
          · have e9 : v 9 = .int .i64 (t7 : Int) := hF 9 (hA 9 (by simp))
            have h64 : (t7 : Int) < 64 := (by have := H7.out; omega)
            simp only [e9] at hK
            go_simp
            refine hK _ _ hJ (Below.refl _ _) ?_
            first | exact rfl | exact val_mod _
          · have e10 : v 10 = .pointer (some ⟨w.heap.size, t7, none⟩) := hF 10 (hA 10 (by simp))
            have c0 := C7.out _ _ hJ
            simp only [e10] at hK
            go_simp
            refine hK _ _ hJ (Below.refl _ _) ?_
            first | exact rfl | exact val_mod _
          · have e7 : v 7 = W32 ((rotW y 17 ^^^ rotW y 19) ^^^ (y / ofW 1024)) := hF 7 (hA 7 (by simp))
            have e11 : v 11 = W32 z7 := hF 11 (hA 11 (by simp))
            simp only [e7, e11] at hK
            go_simp
            refine hK _ _ hJ (Below.refl _ _) ?_
            first | exact rfl | exact val_mod _
          · go_simp
            refine hK _ _ hJ (Below.refl _ _) ?_
            first | exact rfl | exact val_mod _
          · go_simp
            refine hK _ _ hJ (Below.refl _ _) ?_
            first | exact rfl | exact val_mod _
          · go_simp
            exact hK _ _ (hJ.alloc hJ.size _) ((Below.refl _ _).alloc (Nat.le_refl _) _) ⟨_, rfl, heap_alloc_new _ _⟩
          · have e13 : v 13 = .func (.func 63) #[] #[] := hF 13 (hA 13 (by simp))
            have e14 : v 14 = W32 x := hF 14 (hA 14 (by simp))
            simp only [e13, e14] at hK
            obtain ⟨q, e15, hq⟩ : ∃ q, v 15 = .slice (some ⟨q, 0, none⟩) 2 2 ∧ w1.heap[q]? = some (.cells #[.int .i64 7, .int .i64 18] 3 (0, 0)) := hF 15 (hA 15 (by simp))
            simp only [e15] at hK
            go_simp
            refine (rot_any x [7, 18] q w1 (by simp) (by simp) hq).mono ?_
            rintro e w5 ⟨rfl, hw5⟩
            rw [hw5, rots2]
            exact hK _ _ hJ (Below.refl _ _) rfl
          · go_simp
            refine hK _ _ hJ (Below.refl _ _) ?_
            first | exact rfl | exact val_mod _
          · have e17 : v 17 = W32 x := hF 17 (hA 17 (by simp))
            simp only [e17] at hK
            go_simp
            refine hK _ _ hJ (Below.refl _ _) ?_
            first | exact rfl | exact val_mod _
          · have e16 : v 16 = W32 (rotW x 7 ^^^ rotW x 18) := hF 16 (hA 16 (by simp))
            have e18 : v 18 = W32 (x / ofW 8) := hF 18 (hA 18 (by simp))
            simp only [e16, e18] at hK
            go_simp
            refine hK _ _ hJ (Below.refl _ _) ?_
            first | exact rfl | exact val_mod _
          · have e12 : v 12 = W32 (((rotW y 17 ^^^ rotW y 19) ^^^ (y / ofW 1024)) + z7) := hF 12 (hA 12 (by simp))
            have e19 : v 19 = W32 ((rotW x 7 ^^^ rotW x 18) ^^^ (x / ofW 8)) := hF 19 (hA 19 (by simp))
            simp only [e12, e19] at hK
            go_simp
            refine hK _ _ hJ (Below.refl _ _) ?_
            first | exact rfl | exact val_mod _
          · go_simp
            refine hK _ _ hJ (Below.refl _ _) ?_
            first | exact rfl | exact val_mod _
          · have e21 : v 21 = .int .i64 (t : Int) := hF 21 (hA 21 (by simp))
            have W := W16.out
            simp only [e21] at hK
            go_simp
            refine hK _ _ hJ (Below.refl _ _) ?_
            first | exact rfl | exact val_mod _
          · have e22 : v 22 = .int .i64 (t16 : Int) := hF 22 (hA 22 (by simp))
            have h64 : (t16 : Int) < 64 := (by have := H16.out; omega)
            simp only [e22] at hK
            go_simp
            refine hK _ _ hJ (Below.refl _ _) ?_
            first | exact rfl | exact val_mod _
          · have e23 : v 23 = .pointer (some ⟨w.heap.size, t16, none⟩) := hF 23 (hA 23 (by simp))
            have c0 := C16.out _ _ hJ
            simp only [e23] at hK
            go_simp
            refine hK _ _ hJ (Below.refl _ _) ?_
            first | exact rfl | exact val_mod _
          · have e20 : v 20 = W32 (((rotW y 17 ^^^ rotW y 19) ^^^ (y / ofW 1024)) + z7 + ((rotW x 7 ^^^ rotW x 18) ^^^ (x / ofW 8))) := hF 20 (hA 20 (by simp))
            have e24 : v 24 = W32 z16 := hF 24 (hA 24 (by simp))
            simp only [e20, e24] at hK
            go_simp
            refine hK _ _ hJ (Below.refl _ _) ?_
            first | exact rfl | exact val_mod _
        case tail =>
          intro v w1 hJ hF
          have e0 : v 0 = .int .i64 (t : Int) := hF 0 (by simp)
          have e1 : v 1 = .func (.func 63) #[] #[] := hF 1 (by simp)
          have e2 : v 2 = W32 y := hF 2 (by simp)
          have e4 : v 4 = W32 (rotW y 17 ^^^ rotW y 19) := hF 4 (by simp)
          have e5 : v 5 = W32 y := hF 5 (by simp)
          have e6 : v 6 = W32 (y / ofW 1024) := hF 6 (by simp)
          have e7 : v 7 = W32 ((rotW y 17 ^^^ rotW y 19) ^^^ (y / ofW 1024)) := hF 7 (by simp)
          have e8 : v 8 = .int .i64 (t : Int) := hF 8 (by simp)
          have e9 : v 9 = .int .i64 (t7 : Int) := hF 9 (by simp)
          have e10 : v 10 = .pointer (some ⟨w.heap.size, t7, none⟩) := hF 10 (by simp)
          have e11 : v 11 = W32 z7 := hF 11 (by simp)
          have e12 : v 12 = W32 (((rotW y 17 ^^^ rotW y 19) ^^^ (y / ofW 1024)) + z7) := hF 12 (by simp)
          have e13 : v 13 = .func (.func 63) #[] #[] := hF 13 (by simp)
          have e14 : v 14 = W32 x := hF 14 (by simp)
          have e16 : v 16 = W32 (rotW x 7 ^^^ rotW x 18) := hF 16 (by simp)
          have e17 : v 17 = W32 x := hF 17 (by simp)
          have e18 : v 18 = W32 (x / ofW 8) := hF 18 (by simp)
          have e19 : v 19 = W32 ((rotW x 7 ^^^ rotW x 18) ^^^ (x / ofW 8)) := hF 19 (by simp)
          have e20 : v 20 = W32 (((rotW y 17 ^^^ rotW y 19) ^^^ (y / ofW 1024)) + z7 + ((rotW x 7 ^^^ rotW x 18) ^^^ (x / ofW 8))) := hF 20 (by simp)
          have e21 : v 21 = .int .i64 (t : Int) := hF 21 (by simp)
          have e22 : v 22 = .int .i64 (t16 : Int) := hF 22 (by simp)
          have e23 : v 23 = .pointer (some ⟨w.heap.size, t16, none⟩) := hF 23 (by simp)
          have e24 : v 24 = W32 z16 := hF 24 (by simp)
          have e25 : v 25 = W32 (((rotW y 17 ^^^ rotW y 19) ^^^ (y / ofW 1024)) + z7 + ((rotW x 7 ^^^ rotW x 18) ^^^ (x / ofW 8)) + z16) := hF 25 (by simp)
          simp only [List.drop_succ_cons, List.drop_zero, fillRG, Act.put, Nat.zero_add, Nat.reduceAdd, List.setIfInBounds_toArray, List.set_cons_zero, List.set_cons_succ]
          have HJ := Lib.hid hJ
          have hw2 : w1.heap[w.heap.size]? = some (.cells (wArr 64 (schedF b t)) 72 (0, 0)) := (hJ.block w.heap.size (Array.getElem?_eq_some_iff.1 HWB.out).1).trans HWB.out
          obtain ⟨sc, sf⟩ := wArr_room (by rw [schedF_len]; exact ht64) hw2
          rw [schedF_len] at sc sf
          have HW2 := Lib.hid hw2
          simp only [e0, e25]
          clear hJ hF hw2
          go_wp2_with fail
          go_roundg m
          case measure => omega
          case rel => exact ⟨t + 1, m, rfl, by omega, by go_num, Lib.hid (by
            have h := wArr_push (x := ((rotW y 17 ^^^ rotW y 19) ^^^ (y / ofW 1024)) + z7 + ((rotW x 7 ^^^ rotW x 18) ^^^ (x / ofW 8)) + z16) (by rw [schedF_len]; exact ht64) HW2.out
            rw [schedF_len] at h
            rw [schedF, HNX.out]; exact h), (((below_drewN HBR.out nq).trans (HJ.out.mono HBR.out.size)).setCell (p := ⟨w.heap.size, t, none⟩) (Nat.le_refl _) _)⟩
end Go.Proofs.YtnogcnmoeekcpaaDoor
