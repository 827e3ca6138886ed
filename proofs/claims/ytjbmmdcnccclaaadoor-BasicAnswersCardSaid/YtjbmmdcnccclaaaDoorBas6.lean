/- Basic access: the start of a session, both sides. -/
import Derived.Test.YtjbmmdcnccclaaaDoorQBas5
import Derived.Test.YtjbmmdcnccclaaaDoorNumB
namespace Go.Proofs.YtjbmmdcnccclaaaDoor
open Go.RowKit Go.Deep

theorem sess3 {w : World} {p : Nat} {a b c : Value} {t : TypeId} (h : w.heap[p]? = some (.cells #[a, b, c] t (0, 0))) :
    w.cell? ⟨p, 0, none⟩ = some a ∧ w.cell? ⟨p, 1, none⟩ = some b ∧ w.cell? ⟨p, 2, none⟩ = some c ∧ ∀ o, w.frozen? ⟨p, o, none⟩ = false := by
  have key : ∀ o v, #[a, b, c][o]? = some v → w.cell? ⟨p, o, none⟩ = some v := fun o v e => by rw [cell_of_row _ _ _ _ _ _ h]; exact e
  exact ⟨key 0 _ rfl, key 1 _ rfl, key 2 _ rfl, fun o => by simp [World.frozen?, h]⟩
def set3 (w : World) (g : Nat) (a b c : Value) : World := ((w.setCell ⟨g, 0, none⟩ a).setCell ⟨g, 1, none⟩ b).setCell ⟨g, 2, none⟩ c
theorem set3_row {w : World} {g : Nat} {x y z : Value} {t : TypeId} (a b c : Value) (h : w.heap[g]? = some (.cells #[x, y, z] t (0, 0))) : (set3 w g a b c).heap[g]? = some (.cells #[a, b, c] t (0, 0)) :=
  row_put (o := 2) (row_put (o := 1) (row_put (o := 0) h))
theorem set3_below {w w' : World} {B g : Nat} {a b c : Value} (h : Below B w w') (hg : B ≤ g) : Below B w (set3 w' g a b c) := ((h.setCell hg _).setCell hg _).setCell hg _
theorem set3_other {w : World} {g j : Nat} {a b c : Value} (h : j ≠ g) : (set3 w g a b c).heap[j]? = w.heap[j]? := by
  unfold set3
  rw [Below.heap_setCell _ _ _ _ (by exact h), Below.heap_setCell _ _ _ _ (by exact h), Below.heap_setCell _ _ _ _ (by exact h)]
/-- A session's value: both keys and the number, in blocks above a bound. -/
def SessV (w : World) (S : Nat → Prop) (v : Value) (k1 k2 : List UInt8) (n : Int) : Prop := ∃ A c B d, v = .agg #[.slice A 16 c, .slice B 16 d, .int .i64 n] ∧ BsS w S (.slice A 16 c) k1 ∧ BsS w S (.slice B 16 d) k2
set_option maxRecDepth 100000 in
set_option maxHeartbeats 1000000 in
theorem svalidS_any (A B : Option Addr) (c d : Nat) (n : Int) (w : World) (h0 : 0 ≤ n) (h1 : n ≤ 1099511627776) : Calls Tryd.prog 81 #[.agg #[.slice A 16 c, .slice B 16 d, .int .i64 n]] w fun e w' => e = .returned (.bool true) ∧ Below w.heap.size w w' := by
  go_enter Tryd.func81, Tryd.ntmps81
  go_wp2_with fail
  go_ret
  exact ⟨rfl, (Below.refl _ _).alloc (Nat.le_refl _) _⟩
set_option maxRecDepth 100000 in
set_option maxHeartbeats 2000000 in
theorem start_good (va vb : Value) (k1 k2 : List UInt8) (n : Int) (w : World) (ha : Bs w w.heap.size va k1) (hb : Bs w w.heap.size vb k2) (h1 : k1.length = 16) (h2 : k2.length = 16) (h0 : 0 ≤ n) (hn : n ≤ 1099511627776) :
    Calls Tryd.prog 57 #[va, vb, .int .i64 n] w fun e w' => ∃ v, e = .returned (.tuple #[v, .int .i64 0]) ∧ SessV w' (New w w') v k1 k2 n ∧ Below w.heap.size w w' := by
  obtain ⟨w0, hw0⟩ : ∃ w0, w0 = w.alloc (.cells #[.slice none 0 0, .slice none 0 0, .int .i64 0] 40) := ⟨_, rfl⟩
  have hB0 : Below w.heap.size w w0 := by rw [hw0]; exact (Below.refl _ _).alloc (Nat.le_refl _) _
  have hh0 : w0.heap[w.heap.size]? = some (.cells #[.slice none 0 0, .slice none 0 0, .int .i64 0] 40 (0, 0)) := by rw [hw0]; exact heap_alloc_new _ _
  have HA := Lib.hid ha; have HB := Lib.hid hb; have H1 := Lib.hid h1; have H2 := Lib.hid h2
  obtain ⟨A, na, ca, rfl⟩ := ha.form
  obtain ⟨B, nb, cb, rfl⟩ := hb.form
  obtain rfl : na = 16 := by rw [Bs.lenEq ha]; exact h1
  obtain rfl : nb = 16 := by rw [Bs.lenEq hb]; exact h2
  have HW0 := Lib.hid hw0; have HB0 := Lib.hid hB0; have HH0 := Lib.hid hh0
  clear ha hb h1 h2 hw0 hB0 hh0
  go_enter Tryd.func57, Tryd.ntmps57
  go_upto_region 1 with fail
  rw [← HW0.out]
  clear HW0
  go_upto_region 2 with (first
    | (go_at_call 76; refine (clone_any _ k2 w1 (HB.out.lift (HB0.out.trans (HB1.out.mono HB0.out.size)))).mono ?_; rintro e w2 ⟨v2, rfl, ho, hb⟩; obtain ⟨A2, c2, hv2⟩ := OwnB.form ho; rw [H2.out] at hv2; subst hv2; have HO2 := Lib.hid (OwnB.out ho (by rw [H2.out]; omega) w1 (Nat.le_refl _)); have HB2 := Lib.hid hb; clear ho hb)
    | (go_at_call 76; refine (clone_any _ k1 w0 (HA.out.lift HB0.out)).mono ?_; rintro e w1 ⟨v1, rfl, ho, hb⟩; obtain ⟨A1, c1, hv1⟩ := OwnB.form ho; rw [H1.out] at hv1; subst hv1; have HO1 := Lib.hid (OwnB.out ho (by rw [H1.out]; omega) w0 (Nat.le_refl _)); have HB1 := Lib.hid hb; clear ho hb))
  obtain ⟨w3, hw3⟩ : ∃ w3, w3 = w2.alloc (.cells #[.slice A1 16 c1, .slice A2 16 c2, .int .i64 n] 40) := ⟨_, rfl⟩
  rw [← hw3]
  have hh3 : w3.heap[w2.heap.size]? = some (.cells #[.slice A1 16 c1, .slice A2 16 c2, .int .i64 n] 40 (0, 0)) := by rw [hw3]; exact heap_alloc_new _ _
  have HB3 : Hid (Below w2.heap.size w2 w3) := Lib.hid (by rw [hw3]; exact (Below.refl _ _).alloc (Nat.le_refl _) _)
  obtain ⟨p0, p1, p2, _⟩ := sess3 hh3
  have HH3 := Lib.hid hh3
  have HV := Lib.hid (svalidS_any A1 A2 c1 c2 n w3 h0 hn)
  clear hw3 hh3
  go_upto_region 6 with (go_at_call 81; refine HV.out.mono ?_; rintro e w4 ⟨rfl, hb⟩; have HB4 := Lib.hid hb; clear hb)
  have s0 := HB0.out.size; have s1 := HB1.out.size; have s2 := HB2.out.size; have s3 := HB3.out.size
  have hlt0 := (Array.getElem?_eq_some_iff.1 HH0.out).1
  have hh4 := (HB4.out.block w2.heap.size (Array.getElem?_eq_some_iff.1 HH3.out).1).trans HH3.out
  have hz4 := (HB4.out.block w.heap.size (by omega)).trans ((HB3.out.block w.heap.size (by omega)).trans ((HB2.out.block w.heap.size (by omega)).trans ((HB1.out.block w.heap.size hlt0).trans HH0.out)))
  have HZ4 := Lib.hid hz4
  obtain ⟨q0, q1, q2, _⟩ := sess3 hh4
  obtain ⟨z0, z1, z2, zf⟩ := sess3 hz4
  have zf0 := zf 0; have zf1 := zf 1; have zf2 := zf 2
  obtain ⟨y0, y1, y2, _⟩ := sess3 (set3_row (.slice A1 16 c1) (.slice A2 16 c2) (.int .i64 n) HZ4.out)
  clear p0 p1 p2 zf hh4 hz4
  go_wp2_with fail
  refine bodyPost_ret (v := .tuple #[.agg #[.slice A1 16 c1, .slice A2 16 c2, .int .i64 n], .int .i64 0]) (by simp only [set3] at y0 y1 y2; simp [results, Tryd.results57, go_sem, y0, y1, y2]) rfl ?_
  have s4 := HB4.out.size
  have hb04 : Below w.heap.size w w4 := HB0.out.trans ((HB1.out.trans ((HB2.out.trans ((HB3.out.trans (HB4.out.mono s3)).mono s2)).mono s1)).mono s0)
  have hsz : (set3 w4 w.heap.size (.slice A1 16 c1) (.slice A2 16 c2) (.int .i64 n)).heap.size = w4.heap.size := by simp [set3]
  have hb24 : Below w2.heap.size w2 w4 := HB3.out.trans (HB4.out.mono s3)
  refine ⟨_, rfl, ⟨A1, c1, A2, c2, rfl, ?_, ?_⟩, set3_below hb04 (Nat.le_refl _)⟩
  · refine BsS.keep HO1.out fun g hg hl => ⟨(set3_other (by have := hg.1; omega)).trans ((hb24.block g (by have := hg.2; omega)).trans (HB2.out.block g hg.2)), by have := hg.1; omega, ?_⟩
    show g < (set3 w4 w.heap.size (.slice A1 16 c1) (.slice A2 16 c2) (.int .i64 n)).heap.size
    rw [hsz]; have := hg.2; omega
  · refine BsS.keep HO2.out fun g hg hl => ⟨(set3_other (by have := hg.1; omega)).trans (hb24.block g hg.2), by have := hg.1; omega, ?_⟩
    show g < (set3 w4 w.heap.size (.slice A1 16 c1) (.slice A2 16 c2) (.int .i64 n)).heap.size
    rw [hsz]; have := hg.2; omega
set_option maxRecDepth 100000 in
set_option maxHeartbeats 2000000 in
theorem rstart_good (va vb : Value) (k1 k2 : List UInt8) (n : Int) (w : World) (ha : Bs w w.heap.size va k1) (hb : Bs w w.heap.size vb k2) (h1 : k1.length = 16) (h2 : k2.length = 16) (h0 : 0 ≤ n) (hn : n ≤ 1099511627776) :
    Calls Tryd.prog 61 #[va, vb, .int .i64 n] w fun e w' => ∃ v, e = .returned (.tuple #[v, .int .i64 0]) ∧ SessV w' (New w w') v k1 k2 n ∧ Below w.heap.size w w' := by
  obtain ⟨w0, hw0⟩ : ∃ w0, w0 = w.alloc (.cells #[.slice none 0 0, .slice none 0 0, .int .i64 0] 40) := ⟨_, rfl⟩
  have hB0 : Below w.heap.size w w0 := by rw [hw0]; exact (Below.refl _ _).alloc (Nat.le_refl _) _
  have hh0 : w0.heap[w.heap.size]? = some (.cells #[.slice none 0 0, .slice none 0 0, .int .i64 0] 40 (0, 0)) := by rw [hw0]; exact heap_alloc_new _ _
  have HA := Lib.hid ha; have HB := Lib.hid hb; have H1 := Lib.hid h1; have H2 := Lib.hid h2
  obtain ⟨A, na, ca, rfl⟩ := ha.form
  obtain ⟨B, nb, cb, rfl⟩ := hb.form
  obtain rfl : na = 16 := by rw [Bs.lenEq ha]; exact h1
  obtain rfl : nb = 16 := by rw [Bs.lenEq hb]; exact h2
  have HW0 := Lib.hid hw0; have HB0 := Lib.hid hB0; have HH0 := Lib.hid hh0
  have HA0 := Lib.hid (HA.out.lift hB0); have HBB0 := Lib.hid (HB.out.lift hB0)
  have g1 : decide (n < 0) = false := decide_eq_false (by omega)
  have g2 : decide (n > 1099511627776) = false := decide_eq_false (by omega)
  clear ha hb h1 h2 hw0 hB0 hh0
  go_enter Tryd.func61, Tryd.ntmps61
  go_upto_region 1 with fail
  rw [← HW0.out]
  clear HW0
  go_upto_region 5 with fail
  have s0 := HB0.out.size
  have hlt0 := (Array.getElem?_eq_some_iff.1 HH0.out).1
  go_wp2_with (first
    | (at_builtin; (with_reducible refine wpList_more rfl (.const (.slice none 0 0)) (.tmp 26) rfl w1.heap.size (.slice none 0 0) [] rfl (OwnB.nil _ _) B 16 cb k2 (fun g => g < w1.heap.size) rfl HK2.out (by simp only [List.length_nil]; rw [H2.out]; omega) (Nat.le_refl _) ?_); intro v2 w2 hG; rw [List.nil_append] at hG; obtain ⟨A2, c2, hv2⟩ := hG.1.form; rw [H2.out] at hv2; subst hv2; have HO2 := Lib.hid (OwnB.out hG.1 (by rw [H2.out]; omega) w1 (Nat.le_refl _)); have HB2 := Lib.hid hG.2.1; have hz2 := (HB2.out.block w.heap.size (Nat.lt_of_lt_of_le hlt0 HB1.out.size)).trans ((HB1.out.block w.heap.size hlt0).trans HH0.out); have HZ2 := Lib.hid hz2; obtain ⟨z0, z1, z2, zf⟩ := sess3 hz2; have zf0 := zf 0; have zf1 := zf 1; have zf2 := zf 2; clear hG hz2 zf)
    | (at_builtin; (with_reducible refine wpList_more rfl (.const (.slice none 0 0)) (.tmp 24) rfl w0.heap.size (.slice none 0 0) [] rfl (OwnB.nil _ _) A 16 ca k1 (fun g => g < w0.heap.size) rfl HA0.out (by simp only [List.length_nil]; rw [H1.out]; omega) (Nat.le_refl _) ?_); intro v1 w1 hG; rw [List.nil_append] at hG; obtain ⟨A1, c1, hv1⟩ := hG.1.form; rw [H1.out] at hv1; subst hv1; have HO1 := Lib.hid (OwnB.out hG.1 (by rw [H1.out]; omega) w0 (Nat.le_refl _)); have HB1 := Lib.hid hG.2.1; have HK2 := Lib.hid (HBB0.out.lift hG.2.1); clear hG))
  obtain ⟨y0, y1, y2, _⟩ := sess3 (set3_row (.slice A1 16 c1) (.slice A2 16 c2) (.int .i64 n) HZ2.out)
  refine bodyPost_ret (v := .tuple #[.agg #[.slice A1 16 c1, .slice A2 16 c2, .int .i64 n], .int .i64 0]) (by simp only [set3] at y0 y1 y2; simp [results, Tryd.results61, go_sem, y0, y1, y2]) rfl ?_
  have s1 := HB1.out.size; have s2 := HB2.out.size
  have hb02 : Below w.heap.size w w2 := HB0.out.trans ((HB1.out.trans (HB2.out.mono s1)).mono s0)
  have hsz : (set3 w2 w.heap.size (.slice A1 16 c1) (.slice A2 16 c2) (.int .i64 n)).heap.size = w2.heap.size := by simp [set3]
  refine ⟨_, rfl, ⟨A1, c1, A2, c2, rfl, ?_, ?_⟩, set3_below hb02 (Nat.le_refl _)⟩
  · refine BsS.keep HO1.out fun g hg hl => ⟨(set3_other (by have := hg.1; omega)).trans (HB2.out.block g hg.2), by have := hg.1; omega, ?_⟩
    show g < (set3 w2 w.heap.size (.slice A1 16 c1) (.slice A2 16 c2) (.int .i64 n)).heap.size
    rw [hsz]; have := hg.2; omega
  · refine BsS.keep HO2.out fun g hg hl => ⟨set3_other (by have := hg.1; omega), by have := hg.1; omega, ?_⟩
    show g < (set3 w2 w.heap.size (.slice A1 16 c1) (.slice A2 16 c2) (.int .i64 n)).heap.size
    rw [hsz]; exact hg.2
end Go.Proofs.YtjbmmdcnccclaaaDoor
