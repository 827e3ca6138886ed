/- Layer 20: BasicAsks. -/
import Derived.Test.YtjbmmdcnccclaaaDoorQAwB
import Derived.Test.YtjbmmdcnccclaaaDoorQBas5
import Derived.Test.YtjbmmdcnccclaaaDoorQSame
import Derived.Deep.CutBlock
namespace Go.Proofs.YtjbmmdcnccclaaaDoor
open Go.RowKit Go.Deep

/-- Values of bytes, each readable. -/
def VV (w : World) (L : List (Value × List UInt8)) : Prop := ∀ x ∈ L, Bs w w.heap.size x.1 x.2
theorem VV.nil {w : World} : VV w [] := fun _ h => by simp at h
theorem VV.on {w wq : World} {L : List (Value × List UInt8)} (h : VV w L) (hb : Below w.heap.size w wq) : VV wq L := fun x hx => (h x hx).lift hb
theorem VV.add {w w0 : World} {L : List (Value × List UInt8)} (h : VV w L) {v : Value} {l : List UInt8} (hv : BsS w (New w0 w) v l) : VV w ((v, l) :: L) := fun x hx => by
  rcases List.mem_cons.1 hx with rfl | hx
  · exact BsS.keep hv fun g hs _ => ⟨rfl, hs.2⟩
  · exact h x hx
theorem VV.at {w : World} {L : List (Value × List UInt8)} (h : VV w L) (i : Nat) {v : Value} {l : List UInt8} (hi : L[i]? = some (v, l)) : Bs w w.heap.size v l := h (v, l) (List.mem_of_getElem? hi)
theorem Bs.lift1 {w w' : World} {v : Value} {l : List UInt8} (h : Bs w w.heap.size v l) (hb : Below w.heap.size w w') : Bs w' w'.heap.size v l := h.lift hb
/-- Four values in the row behind w. -/
def R4 (w wx : World) (a b c d : Value) (la lb lc ld : List UInt8) : Prop :=
  Below w.heap.size w wx ∧ w.heap.size < wx.heap.size ∧ wx.heap[w.heap.size]? = some (.cells #[a, b, c, d] 24 (0, 0)) ∧ Bs w w.heap.size a la ∧ Bs w w.heap.size b lb ∧ Bs w w.heap.size c lc ∧ Bs w w.heap.size d ld
section
variable {w wx wy : World} {a b c d x : Value} {la lb lc ld lx : List UInt8}
theorem R4.on (h : R4 w wx a b c d la lb lc ld) (hb : Below wx.heap.size wx wy) : R4 w wy a b c d la lb lc ld :=
  ⟨h.1.trans (hb.mono h.1.size), Nat.lt_of_lt_of_le h.2.1 hb.size, (hb.block _ h.2.1).trans h.2.2.1, h.2.2.2⟩
theorem R4.cells (h : R4 w wx a b c d la lb lc ld) : wx.cell? ⟨w.heap.size, 0, none⟩ = some a ∧ wx.cell? ⟨w.heap.size, 1, none⟩ = some b ∧ wx.cell? ⟨w.heap.size, 2, none⟩ = some c ∧ wx.cell? ⟨w.heap.size, 3, none⟩ = some d := by
  refine ⟨?_, ?_, ?_, ?_⟩ <;> (rw [cell_of_row _ _ _ _ _ _ h.2.2.1]; rfl)
theorem R4.free (h : R4 w wx a b c d la lb lc ld) (o : Nat) : wx.frozen? ⟨w.heap.size, o, none⟩ = false := by simp [World.frozen?, h.2.2.1]
theorem R4.row (h : R4 w wx a b c d la lb lc ld) (k : Nat) (u : Value) : (wx.setCell ⟨w.heap.size, k, none⟩ u).heap[w.heap.size]? = some (.cells (#[a, b, c, d].setIfInBounds k u) 24 (0, 0)) := by
  show (wx.heap.modify w.heap.size _)[w.heap.size]? = _
  rw [Array.getElem?_modify, if_pos rfl, h.2.2.1]
  rfl
theorem R4.setB (h : R4 w wx a b c d la lb lc ld) (k : Nat) (u : Value) : Below w.heap.size w (wx.setCell ⟨w.heap.size, k, none⟩ u) ∧ w.heap.size < (wx.setCell ⟨w.heap.size, k, none⟩ u).heap.size :=
  ⟨h.1.setCell (Nat.le_refl _) _, by simpa using h.2.1⟩
theorem R4.set0 (h : R4 w wx a b c d la lb lc ld) (hx : Bs w w.heap.size x lx) : R4 w (wx.setCell ⟨w.heap.size, 0, none⟩ x) x b c d lx lb lc ld := ⟨(h.setB 0 x).1, (h.setB 0 x).2, h.row 0 x, hx, h.2.2.2.2⟩
theorem R4.set1 (h : R4 w wx a b c d la lb lc ld) (hx : Bs w w.heap.size x lx) : R4 w (wx.setCell ⟨w.heap.size, 1, none⟩ x) a x c d la lx lc ld := ⟨(h.setB 1 x).1, (h.setB 1 x).2, h.row 1 x, h.2.2.2.1, hx, h.2.2.2.2.2⟩
theorem R4.set2 (h : R4 w wx a b c d la lb lc ld) (hx : Bs w w.heap.size x lx) : R4 w (wx.setCell ⟨w.heap.size, 2, none⟩ x) a b x d la lb lx ld := ⟨(h.setB 2 x).1, (h.setB 2 x).2, h.row 2 x, h.2.2.2.1, h.2.2.2.2.1, hx, h.2.2.2.2.2.2⟩
theorem R4.set3 (h : R4 w wx a b c d la lb lc ld) (hx : Bs w w.heap.size x lx) : R4 w (wx.setCell ⟨w.heap.size, 3, none⟩ x) a b c x la lb lc lx := ⟨(h.setB 3 x).1, (h.setB 3 x).2, h.row 3 x, h.2.2.2.1, h.2.2.2.2.1, h.2.2.2.2.2.1, hx⟩
theorem R4.start (w : World) : R4 w (w.alloc (.cells #[.slice none 0 0, .slice none 0 0, .slice none 0 0, .slice none 0 0] 24)) (.slice none 0 0) (.slice none 0 0) (.slice none 0 0) (.slice none 0 0) [] [] [] [] :=
  ⟨(Below.refl _ _).alloc (Nat.le_refl _) _, by simp, heap_alloc_new _ _, Bs.nil _ _, Bs.nil _ _, Bs.nil _ _, Bs.nil _ _⟩
end
set_option maxRecDepth 100000 in
set_option maxHeartbeats 8000000 in
theorem basicAsks_law (s : ByteArray) (hsz0 : s.size ≤ 140737488351232) (v : Value) (L : List (List UInt8)) (w : World) (hK : KR w ∧ KD w) (hv : LBs w w.heap.size v L) : Calls Tryd.prog 3 #[.string s, v] w fun e w' => e = .returned (.bool true) ∧ Below w.heap.size w w' := by
  have hmx : Tryd.prog.follows .mixedOrders = true := by kernel_rfl
  have hsz : s.size ≤ 140737488355000 := by omega
  have HK := Lib.hid hK
  obtain ⟨va, vc, xs, rfl, hlc, hc9, hE, hcell⟩ := hv
  have HE := Lib.hid hE; have HC := Lib.hid hcell
  clear hsz0 hK hE hcell
  go_enter Tryd.func3, Tryd.ntmps3
  go_upto_block 0 with fail
  go_cut [6] from 15 to 31 (fun y wx => ∃ a b c d la lb lc ld, R4 w wx a b c d la lb lc ld)
  case first =>
    go_wp2_with fail
    go_loopg [6] 4 (fun q i wr => ∃ j : Nat, ∃ xa xb xc xd la lb lc ld, j + q = 4 ∧ i = .int .i64 (j : Int) ∧ R4 w wr xa xb xc xd la lb lc ld)
    case atStart => exact ⟨0, _, _, _, _, _, _, _, _, by omega, rfl, R4.start w⟩
    case round =>
    obtain ⟨j, xa, xb, xc, xd, la, lb, lc, ld, hj, rfl, hR⟩ := hrel
    have HR := Lib.hid hR
    clear hR
    by_cases hl : j < L.length
    · by_cases h4 : j < 4
      · have hjx : j < xs.length := by rw [HE.out.1]; exact hl
        obtain ⟨x, hx⟩ : ∃ x, xs[j]? = some x := ⟨_, List.getElem?_eq_getElem hjx⟩
        obtain ⟨b, off, rfl, hb, hcl⟩ := HC.out (by omega)
        obtain ⟨XA, XN, XC, rfl⟩ : ∃ A n c, x = .slice A n c := (HE.out.2 j x hx).form
        have HX := Lib.hid (HE.out.2 j _ hx)
        have hxc : ∀ W, Below w.heap.size w W → W.cell? ⟨b, off + j, none⟩ = some (.slice XA XN XC) := fun W h => (h.cell (p := ⟨b, off + j, none⟩) hb).trans (hcl j _ hx)
        have hx1 := hxc _ HR.out.1
        have fr := HR.out.free j
        obtain ⟨c0, c1, c2, c3⟩ := HR.out.cells
        clear hcl hxc hx hjx
        obtain hq0 | hq0 | hq0 | hq0 : j = 0 ∨ j = 1 ∨ j = 2 ∨ j = 3 := by omega
        all_goals (subst hq0)
        · simp only [Nat.add_zero] at hx1
          go_wp2_with fail
          go_roundg 3
          case measure => omega
          case rel => exact ⟨1, (.slice XA XN XC), xb, xc, xd, (gl L 0), lb, lc, ld, by omega, by go_num, HR.out.set0 HX.out⟩
        · go_wp2_with fail
          go_roundg 2
          case measure => omega
          case rel => exact ⟨2, xa, (.slice XA XN XC), xc, xd, la, (gl L 1), lc, ld, by omega, by go_num, HR.out.set1 HX.out⟩
        · go_wp2_with fail
          go_roundg 1
          case measure => omega
          case rel => exact ⟨3, xa, xb, (.slice XA XN XC), xd, la, lb, (gl L 2), ld, by omega, by go_num, HR.out.set2 HX.out⟩
        · go_wp2_with fail
          go_roundg 0
          case measure => omega
          case rel => exact ⟨4, xa, xb, xc, (.slice XA XN XC), la, lb, lc, (gl L 3), by omega, by go_num, HR.out.set3 HX.out⟩
      · go_wp2_with fail
        go_meet
        exact ⟨_, _, _, _, _, _, _, _, HR.out⟩
    · go_wp2_with fail
      go_meet
      exact ⟨_, _, _, _, _, _, _, _, HR.out⟩
  case rest =>
  obtain ⟨xa, xb, xc, xd, la, lb, lc, ld, hR⟩ := hcut
  obtain ⟨w6, rfl⟩ : ∃ w6 : World, w6 = wc := ⟨_, rfl⟩
  have HR6 := Lib.hid hR
  obtain ⟨c0, c1, c2, c3⟩ := hR.cells
  clear hR
  go_upto_region 8 with (first
    | (go_at_call 7; refine (ask_any _ _ _ _ la lb lc ld w6 (HK.out.2.below HR6.out.1 HK.out.2.lt) (HR6.out.2.2.2.1.lift HR6.out.1) (HR6.out.2.2.2.2.1.lift HR6.out.1) (HR6.out.2.2.2.2.2.1.lift HR6.out.1) (HR6.out.2.2.2.2.2.2.lift HR6.out.1)).mono ?_; rintro e w7 ⟨v7, rfl, hs, hb⟩; have V7 : Hid (VV w7 [(v7, (askL la lb lc ld))]) := Lib.hid (VV.nil.add hs); have HR7 := Lib.hid (HR6.out.on hb); clear c0 c1 c2 c3; obtain ⟨c0, c1, c2, c3⟩ := HR7.out.cells; clear hb hs)
    | (go_at_call 8; refine (rask_any _ _ _ _ la lb lc ld w7 (HK.out.1.below HR7.out.1 HK.out.1.lt) (HR7.out.2.2.2.1.lift HR7.out.1) (HR7.out.2.2.2.2.1.lift HR7.out.1) (HR7.out.2.2.2.2.2.1.lift HR7.out.1) (HR7.out.2.2.2.2.2.2.lift HR7.out.1)).mono ?_; rintro e w8 ⟨v8, rfl, hs, hb⟩; have V9 := Lib.hid ((V7.out.on hb).add hs); have HR8 := Lib.hid (HR7.out.on hb); clear c0 c1 c2 c3; clear hb hs))
  obtain ⟨w9r, rfl⟩ : ∃ w9r : World, w9r = w8 := ⟨_, rfl⟩
  have HB_w9r := Lib.hid HR8.out.1
  have HX_w9r := Lib.hid (HR8.out.2.2.2.2.1.lift HR8.out.1); have HY_w9r := Lib.hid (HR8.out.2.2.2.2.2.1.lift HR8.out.1); have HZ_w9r := Lib.hid (HR8.out.2.2.2.2.2.2.lift HR8.out.1)
  have C1_w9r : Hid (∀ W, Below w9r.heap.size w9r W → W.cell? ⟨w.heap.size, 1, none⟩ = some xb) := Lib.hid fun W h => (HR8.out.on h).cells.2.1
  have C2_w9r : Hid (∀ W, Below w9r.heap.size w9r W → W.cell? ⟨w.heap.size, 2, none⟩ = some xc) := Lib.hid fun W h => (HR8.out.on h).cells.2.2.1
  have C3_w9r : Hid (∀ W, Below w9r.heap.size w9r W → W.cell? ⟨w.heap.size, 3, none⟩ = some xd) := Lib.hid fun W h => (HR8.out.on h).cells.2.2.2
  refine wp_region_rg 14 [some 56, some 57, some 58, some 59, some 60, some 61, some 62, some 63, some 64, some 55, some 65, some 66, some 11, some 12] [[], [0], [], [2], [], [4], [], [6], [0, 1, 2, 3, 4, 5, 6, 7], [0, 1, 2, 3, 4, 5, 6, 7, 8], [0, 1, 2, 3, 4, 5, 6, 7, 8, 9], [0, 1, 2, 3, 4, 5, 6, 7, 8, 9], [0, 1, 2, 3, 4, 5, 6, 7, 8, 9, 10], [0, 1, 2, 3, 4, 5, 6, 7, 8, 9, 10, 11, 12]]
    (fun _ _ w1 => Below w9r.heap.size w9r w1) (fun w1 w2 => Below w1.heap.size w1 w2)
    [fun v _ => v 0 = .string s,
     fun v w1 => ∃ y, v 1 = y ∧ BsS w1 (New w9r w1) y (seedW s),
     fun v _ => v 2 = .pointer (some ⟨w.heap.size, 1, none⟩),
     fun v _ => v 3 = xb,
     fun v _ => v 4 = .pointer (some ⟨w.heap.size, 2, none⟩),
     fun v _ => v 5 = xc,
     fun v _ => v 6 = .pointer (some ⟨w.heap.size, 3, none⟩),
     fun v _ => v 7 = xd,
     fun v w1 => ∃ y, v 8 = .tuple #[y, .int .i64 (askE (seedW s) lb lc ld)] ∧ BsS w1 (New w9r w1) y (askL (seedW s) lb lc ld),
     fun v w1 => ∃ y, v 9 = .tuple #[y, .int .i64 (askE (seedW s) lb lc ld)] ∧ BsS w1 (New w9r w1) y (askL (seedW s) lb lc ld),
     fun v w1 => ∃ y, v 10 = y ∧ BsS w1 (New w9r w1) y (askL (seedW s) lb lc ld),
     fun v _ => v 11 = .int .i64 (askE (seedW s) lb lc ld),
     fun v w1 => ∃ y, v 12 = y ∧ BsS w1 (New w9r w1) y (askL (seedW s) lb lc ld),
     fun v _ => v 13 = .int .i64 (askE (seedW s) lb lc ld)]
    (by kernel_rfl) (by kernel_rfl) (fun _ => (Below.refl _ _).drew) ?st ?steps ?tail
  case st =>
    exact (.cons (fun _ _ _ _ _ _ h => h) (.cons (fun _ _ _ _ _ hr ⟨y, e, h⟩ => ⟨y, e, BsS.keep h fun g hs hl => ⟨hr.block g hl, hs.1, Nat.lt_of_lt_of_le hs.2 hr.size⟩⟩) (.cons (fun _ _ _ _ _ _ h => h) (.cons (fun _ _ _ _ _ _ h => h) (.cons (fun _ _ _ _ _ _ h => h) (.cons (fun _ _ _ _ _ _ h => h) (.cons (fun _ _ _ _ _ _ h => h) (.cons (fun _ _ _ _ _ _ h => h) (.cons (fun _ _ _ _ _ hr ⟨y, e, h⟩ => ⟨y, e, BsS.keep h fun g hs hl => ⟨hr.block g hl, hs.1, Nat.lt_of_lt_of_le hs.2 hr.size⟩⟩) (.cons (fun _ _ _ _ _ hr ⟨y, e, h⟩ => ⟨y, e, BsS.keep h fun g hs hl => ⟨hr.block g hl, hs.1, Nat.lt_of_lt_of_le hs.2 hr.size⟩⟩) (.cons (fun _ _ _ _ _ hr ⟨y, e, h⟩ => ⟨y, e, BsS.keep h fun g hs hl => ⟨hr.block g hl, hs.1, Nat.lt_of_lt_of_le hs.2 hr.size⟩⟩) (.cons (fun _ _ _ _ _ _ h => h) (.cons (fun _ _ _ _ _ hr ⟨y, e, h⟩ => ⟨y, e, BsS.keep h fun g hs hl => ⟨hr.block g hl, hs.1, Nat.lt_of_lt_of_le hs.2 hr.size⟩⟩) (.cons (fun _ _ _ _ _ _ h => h) .nil))))))))))))))
  case steps =>
    simp only [List.take_succ_cons, List.take_zero]
    refine (.cons ?_ (.cons ?_ (.cons ?_ (.cons ?_ (.cons ?_ (.cons ?_ (.cons ?_ (.cons ?_ (.cons ?_ (.cons ?_ (.cons ?_ (.cons ?_ (.cons ?_ (.cons ?_ .nil))))))))))))))
    all_goals (intro L v w1 hJ hL hA hF K hK; simp only [fillRG, Act.put, Nat.zero_add, Nat.reduceAdd, List.setIfInBounds_toArray, List.set_cons_zero, List.set_cons_succ] at hK ⊢)
    · go_simp
      refine hK _ _ hJ (Below.refl _ _) ?_
      first | exact rfl | exact val_mod _
    · have e0 : v 0 = .string s := hF 0 (hA 0 (by simp))
      simp only [e0] at hK
      go_simp
      refine (rseed_any s hsz w1 (HK.out.1.below (HB_w9r.out.trans (hJ.mono HB_w9r.out.size)) HK.out.1.lt)).mono ?_
      rintro e w5 ⟨v5, rfl, ho, hb⟩
      exact hK _ _ (hJ.trans (hb.mono hJ.size)) hb ⟨v5, rfl, ho.keep fun g hs _ => ⟨rfl, Nat.le_trans hJ.size hs.1, hs.2⟩⟩
    · go_simp
      refine hK _ _ hJ (Below.refl _ _) ?_
      first | exact rfl | exact val_mod _
    · have e2 : v 2 = .pointer (some ⟨w.heap.size, 1, none⟩) := hF 2 (hA 2 (by simp))
      have c1 := C1_w9r.out _ hJ
      simp only [e2] at hK
      go_simp
      refine hK _ _ hJ (Below.refl _ _) ?_
      first | exact rfl | exact val_mod _
    · go_simp
      refine hK _ _ hJ (Below.refl _ _) ?_
      first | exact rfl | exact val_mod _
    · have e4 : v 4 = .pointer (some ⟨w.heap.size, 2, none⟩) := hF 4 (hA 4 (by simp))
      have c2 := C2_w9r.out _ hJ
      simp only [e4] at hK
      go_simp
      refine hK _ _ hJ (Below.refl _ _) ?_
      first | exact rfl | exact val_mod _
    · go_simp
      refine hK _ _ hJ (Below.refl _ _) ?_
      first | exact rfl | exact val_mod _
    · have e6 : v 6 = .pointer (some ⟨w.heap.size, 3, none⟩) := hF 6 (hA 6 (by simp))
      have c3 := C3_w9r.out _ hJ
      simp only [e6] at hK
      go_simp
      refine hK _ _ hJ (Below.refl _ _) ?_
      first | exact rfl | exact val_mod _
    · have e3 : v 3 = xb := hF 3 (hA 3 (by simp))
      have e5 : v 5 = xc := hF 5 (hA 5 (by simp))
      have e7 : v 7 = xd := hF 7 (hA 7 (by simp))
      simp only [e3, e5, e7] at hK
      obtain ⟨y1, e1, h1⟩ : ∃ y, v 1 = y ∧ BsS w1 (New w9r w1) y (seedW s) := hF 1 (hA 1 (by simp))
      simp only [e1] at hK
      go_simp
      refine (ask_any _ _ _ _ (seedW s) lb lc ld w1 (HK.out.2.below (HB_w9r.out.trans (hJ.mono HB_w9r.out.size)) HK.out.2.lt) (BsS.keep h1 fun g hs _ => ⟨rfl, hs.2⟩) (HX_w9r.out.lift1 hJ) (HY_w9r.out.lift1 hJ) (HZ_w9r.out.lift1 hJ)).mono ?_
      rintro e w5 ⟨v5, rfl, ho, hb⟩
      exact hK _ _ (hJ.trans (hb.mono hJ.size)) hb ⟨v5, rfl, ho.keep fun g hs _ => ⟨rfl, Nat.le_trans hJ.size hs.1, hs.2⟩⟩
    · obtain ⟨y, ei, hh⟩ : ∃ y, v 8 = .tuple #[y, .int .i64 (askE (seedW s) lb lc ld)] ∧ BsS w1 (New w9r w1) y (askL (seedW s) lb lc ld) := hF 8 (hA 8 (by simp))
      simp only [ei] at hK
      go_simp
      exact hK _ _ hJ (Below.refl _ _) ⟨y, rfl, hh⟩
    · obtain ⟨y, ei, hh⟩ : ∃ y, v 9 = .tuple #[y, .int .i64 (askE (seedW s) lb lc ld)] ∧ BsS w1 (New w9r w1) y (askL (seedW s) lb lc ld) := hF 9 (hA 9 (by simp))
      simp only [ei] at hK
      go_simp
      exact hK _ _ hJ (Below.refl _ _) ⟨y, rfl, hh⟩
    · obtain ⟨y, ei, hh⟩ : ∃ y, v 9 = .tuple #[y, .int .i64 (askE (seedW s) lb lc ld)] ∧ BsS w1 (New w9r w1) y (askL (seedW s) lb lc ld) := hF 9 (hA 9 (by simp))
      simp only [ei] at hK
      go_simp
      exact hK _ _ hJ (Below.refl _ _) rfl
    · obtain ⟨y, ei, hh⟩ : ∃ y, v 10 = y ∧ BsS w1 (New w9r w1) y (askL (seedW s) lb lc ld) := hF 10 (hA 10 (by simp))
      simp only [ei] at hK
      go_simp
      exact hK _ _ hJ (Below.refl _ _) ⟨y, rfl, hh⟩
    · have e11 : v 11 = .int .i64 (askE (seedW s) lb lc ld) := hF 11 (hA 11 (by simp))
      simp only [e11] at hK
      go_simp
      refine hK _ _ hJ (Below.refl _ _) ?_
      first | exact rfl | exact val_mod _
  case tail =>
    intro v w1 hJ hF
    have e0 : v 0 = .string s := hF 0 (by simp)
    have e2 : v 2 = .pointer (some ⟨w.heap.size, 1, none⟩) := hF 2 (by simp)
    have e3 : v 3 = xb := hF 3 (by simp)
    have e4 : v 4 = .pointer (some ⟨w.heap.size, 2, none⟩) := hF 4 (by simp)
    have e5 : v 5 = xc := hF 5 (by simp)
    have e6 : v 6 = .pointer (some ⟨w.heap.size, 3, none⟩) := hF 6 (by simp)
    have e7 : v 7 = xd := hF 7 (by simp)
    have e11 : v 11 = .int .i64 (askE (seedW s) lb lc ld) := hF 11 (by simp)
    have e13 : v 13 = .int .i64 (askE (seedW s) lb lc ld) := hF 13 (by simp)
    obtain ⟨y8, e12, hy⟩ : ∃ y, v 12 = y ∧ BsS w1 (New w9r w1) y (askL (seedW s) lb lc ld) := hF 12 (by simp)
    simp only [List.drop_succ_cons, List.drop_zero, fillRG, Act.put, Nat.zero_add, Nat.reduceAdd, List.setIfInBounds_toArray, List.set_cons_zero, List.set_cons_succ]
    simp only [e12, e13]
    clear e0 e2 e3 e4 e5 e6 e7 e11 e12 e13
    have V10 : Hid (VV w1 [(y8, (askL (seedW s) lb lc ld)), (v8, (askL la lb lc ld)), (v7, (askL la lb lc ld))]) := Lib.hid ((V9.out.on hJ).add hy)
    have HB_w10r := Lib.hid (HB_w9r.out.trans (hJ.mono HB_w9r.out.size))
    have HX_w10r := Lib.hid (HX_w9r.out.lift1 hJ); have HY_w10r := Lib.hid (HY_w9r.out.lift1 hJ); have HZ_w10r := Lib.hid (HZ_w9r.out.lift1 hJ)
    have C1_w10r : Hid (∀ W, Below w1.heap.size w1 W → W.cell? ⟨w.heap.size, 1, none⟩ = some xb) := Lib.hid fun W h => C1_w9r.out W (hJ.trans (h.mono hJ.size))
    have C2_w10r : Hid (∀ W, Below w1.heap.size w1 W → W.cell? ⟨w.heap.size, 2, none⟩ = some xc) := Lib.hid fun W h => C2_w9r.out W (hJ.trans (h.mono hJ.size))
    have C3_w10r : Hid (∀ W, Below w1.heap.size w1 W → W.cell? ⟨w.heap.size, 3, none⟩ = some xd) := Lib.hid fun W h => C3_w9r.out W (hJ.trans (h.mono hJ.size))
    obtain ⟨w10r, hw10⟩ : ∃ w10r, w10r = w1 := ⟨_, rfl⟩
    rw [← hw10] at V10 HB_w10r HX_w10r HY_w10r HZ_w10r C1_w10r C2_w10r C3_w10r ⊢
    clear hJ hF hy hw10
    go_upto_region 9 with fail
    refine wp_region_rg 14 [some 68, some 69, some 70, some 71, some 72, some 73, some 74, some 75, some 76, some 67, some 77, some 78, some 13, some 14] [[], [0], [], [2], [], [4], [], [6], [0, 1, 2, 3, 4, 5, 6, 7], [0, 1, 2, 3, 4, 5, 6, 7, 8], [0, 1, 2, 3, 4, 5, 6, 7, 8, 9], [0, 1, 2, 3, 4, 5, 6, 7, 8, 9], [0, 1, 2, 3, 4, 5, 6, 7, 8, 9, 10], [0, 1, 2, 3, 4, 5, 6, 7, 8, 9, 10, 11, 12]]
      (fun _ _ w1 => Below w10r.heap.size w10r w1) (fun w1 w2 => Below w1.heap.size w1 w2)
      [fun v _ => v 0 = .string s,
       fun v w1 => ∃ y, v 1 = y ∧ BsS w1 (New w10r w1) y (seedW s),
       fun v _ => v 2 = .pointer (some ⟨w.heap.size, 1, none⟩),
       fun v _ => v 3 = xb,
       fun v _ => v 4 = .pointer (some ⟨w.heap.size, 2, none⟩),
       fun v _ => v 5 = xc,
       fun v _ => v 6 = .pointer (some ⟨w.heap.size, 3, none⟩),
       fun v _ => v 7 = xd,
       fun v w1 => ∃ y, v 8 = .tuple #[y, .int .i64 (askE (seedW s) lb lc ld)] ∧ BsS w1 (New w10r w1) y (askL (seedW s) lb lc ld),
       fun v w1 => ∃ y, v 9 = .tuple #[y, .int .i64 (askE (seedW s) lb lc ld)] ∧ BsS w1 (New w10r w1) y (askL (seedW s) lb lc ld),
       fun v w1 => ∃ y, v 10 = y ∧ BsS w1 (New w10r w1) y (askL (seedW s) lb lc ld),
       fun v _ => v 11 = .int .i64 (askE (seedW s) lb lc ld),
       fun v w1 => ∃ y, v 12 = y ∧ BsS w1 (New w10r w1) y (askL (seedW s) lb lc ld),
       fun v _ => v 13 = .int .i64 (askE (seedW s) lb lc ld)]
      (by kernel_rfl) (by kernel_rfl) (fun _ => (Below.refl _ _).drew) ?st ?steps ?tail
    case st =>
      exact (.cons (fun _ _ _ _ _ _ h => h) (.cons (fun _ _ _ _ _ hr ⟨y, e, h⟩ => ⟨y, e, BsS.keep h fun g hs hl => ⟨hr.block g hl, hs.1, Nat.lt_of_lt_of_le hs.2 hr.size⟩⟩) (.cons (fun _ _ _ _ _ _ h => h) (.cons (fun _ _ _ _ _ _ h => h) (.cons (fun _ _ _ _ _ _ h => h) (.cons (fun _ _ _ _ _ _ h => h) (.cons (fun _ _ _ _ _ _ h => h) (.cons (fun _ _ _ _ _ _ h => h) (.cons (fun _ _ _ _ _ hr ⟨y, e, h⟩ => ⟨y, e, BsS.keep h fun g hs hl => ⟨hr.block g hl, hs.1, Nat.lt_of_lt_of_le hs.2 hr.size⟩⟩) (.cons (fun _ _ _ _ _ hr ⟨y, e, h⟩ => ⟨y, e, BsS.keep h fun g hs hl => ⟨hr.block g hl, hs.1, Nat.lt_of_lt_of_le hs.2 hr.size⟩⟩) (.cons (fun _ _ _ _ _ hr ⟨y, e, h⟩ => ⟨y, e, BsS.keep h fun g hs hl => ⟨hr.block g hl, hs.1, Nat.lt_of_lt_of_le hs.2 hr.size⟩⟩) (.cons (fun _ _ _ _ _ _ h => h) (.cons (fun _ _ _ _ _ hr ⟨y, e, h⟩ => ⟨y, e, BsS.keep h fun g hs hl => ⟨hr.block g hl, hs.1, Nat.lt_of_lt_of_le hs.2 hr.size⟩⟩) (.cons (fun _ _ _ _ _ _ h => h) .nil))))))))))))))
    case steps =>
      simp only [List.take_succ_cons, List.take_zero]
      refine (.cons ?_ (.cons ?_ (.cons ?_ (.cons ?_ (.cons ?_ (.cons ?_ (.cons ?_ (.cons ?_ (.cons ?_ (.cons ?_ (.cons ?_ (.cons ?_ (.cons ?_ (.cons ?_ .nil))))))))))))))
      all_goals (intro L v w1 hJ hL hA hF K hK; simp only [fillRG, Act.put, Nat.zero_add, Nat.reduceAdd, List.setIfInBounds_toArray, List.set_cons_zero, List.set_cons_succ] at hK ⊢)
      · go_simp
        refine hK _ _ hJ (Below.refl _ _) ?_
        first | exact rfl | exact val_mod _
      · have e0 : v 0 = .string s := hF 0 (hA 0 (by simp))
        simp only [e0] at hK
        go_simp
        refine (rseed_any s hsz w1 (HK.out.1.below (HB_w10r.out.trans (hJ.mono HB_w10r.out.size)) HK.out.1.lt)).mono ?_
        rintro e w5 ⟨v5, rfl, ho, hb⟩
        exact hK _ _ (hJ.trans (hb.mono hJ.size)) hb ⟨v5, rfl, ho.keep fun g hs _ => ⟨rfl, Nat.le_trans hJ.size hs.1, hs.2⟩⟩
      · go_simp
        refine hK _ _ hJ (Below.refl _ _) ?_
        first | exact rfl | exact val_mod _
      · have e2 : v 2 = .pointer (some ⟨w.heap.size, 1, none⟩) := hF 2 (hA 2 (by simp))
        have c1 := C1_w10r.out _ hJ
        simp only [e2] at hK
        go_simp
        refine hK _ _ hJ (Below.refl _ _) ?_
        first | exact rfl | exact val_mod _
      · go_simp
        refine hK _ _ hJ (Below.refl _ _) ?_
        first | exact rfl | exact val_mod _
      · have e4 : v 4 = .pointer (some ⟨w.heap.size, 2, none⟩) := hF 4 (hA 4 (by simp))
        have c2 := C2_w10r.out _ hJ
        simp only [e4] at hK
        go_simp
        refine hK _ _ hJ (Below.refl _ _) ?_
        first | exact rfl | exact val_mod _
      · go_simp
        refine hK _ _ hJ (Below.refl _ _) ?_
        first | exact rfl | exact val_mod _
      · have e6 : v 6 = .pointer (some ⟨w.heap.size, 3, none⟩) := hF 6 (hA 6 (by simp))
        have c3 := C3_w10r.out _ hJ
        simp only [e6] at hK
        go_simp
        refine hK _ _ hJ (Below.refl _ _) ?_
        first | exact rfl | exact val_mod _
      · have e3 : v 3 = xb := hF 3 (hA 3 (by simp))
        have e5 : v 5 = xc := hF 5 (hA 5 (by simp))
        have e7 : v 7 = xd := hF 7 (hA 7 (by simp))
        simp only [e3, e5, e7] at hK
        obtain ⟨y1, e1, h1⟩ : ∃ y, v 1 = y ∧ BsS w1 (New w10r w1) y (seedW s) := hF 1 (hA 1 (by simp))
        simp only [e1] at hK
        go_simp
        refine (rask_any _ _ _ _ (seedW s) lb lc ld w1 (HK.out.1.below (HB_w10r.out.trans (hJ.mono HB_w10r.out.size)) HK.out.1.lt) (BsS.keep h1 fun g hs _ => ⟨rfl, hs.2⟩) (HX_w10r.out.lift1 hJ) (HY_w10r.out.lift1 hJ) (HZ_w10r.out.lift1 hJ)).mono ?_
        rintro e w5 ⟨v5, rfl, ho, hb⟩
        exact hK _ _ (hJ.trans (hb.mono hJ.size)) hb ⟨v5, rfl, ho.keep fun g hs _ => ⟨rfl, Nat.le_trans hJ.size hs.1, hs.2⟩⟩
      · obtain ⟨y, ei, hh⟩ : ∃ y, v 8 = .tuple #[y, .int .i64 (askE (seedW s) lb lc ld)] ∧ BsS w1 (New w10r w1) y (askL (seedW s) lb lc ld) := hF 8 (hA 8 (by simp))
        simp only [ei] at hK
        go_simp
        exact hK _ _ hJ (Below.refl _ _) ⟨y, rfl, hh⟩
      · obtain ⟨y, ei, hh⟩ : ∃ y, v 9 = .tuple #[y, .int .i64 (askE (seedW s) lb lc ld)] ∧ BsS w1 (New w10r w1) y (askL (seedW s) lb lc ld) := hF 9 (hA 9 (by simp))
        simp only [ei] at hK
        go_simp
        exact hK _ _ hJ (Below.refl _ _) ⟨y, rfl, hh⟩
      · obtain ⟨y, ei, hh⟩ : ∃ y, v 9 = .tuple #[y, .int .i64 (askE (seedW s) lb lc ld)] ∧ BsS w1 (New w10r w1) y (askL (seedW s) lb lc ld) := hF 9 (hA 9 (by simp))
        simp only [ei] at hK
        go_simp
        exact hK _ _ hJ (Below.refl _ _) rfl
      · obtain ⟨y, ei, hh⟩ : ∃ y, v 10 = y ∧ BsS w1 (New w10r w1) y (askL (seedW s) lb lc ld) := hF 10 (hA 10 (by simp))
        simp only [ei] at hK
        go_simp
        exact hK _ _ hJ (Below.refl _ _) ⟨y, rfl, hh⟩
      · have e11 : v 11 = .int .i64 (askE (seedW s) lb lc ld) := hF 11 (hA 11 (by simp))
        simp only [e11] at hK
        go_simp
        refine hK _ _ hJ (Below.refl _ _) ?_
        first | exact rfl | exact val_mod _
    case tail =>
      intro v w1 hJ hF
      have e0 : v 0 = .string s := hF 0 (by simp)
      have e2 : v 2 = .pointer (some ⟨w.heap.size, 1, none⟩) := hF 2 (by simp)
      have e3 : v 3 = xb := hF 3 (by simp)
      have e4 : v 4 = .pointer (some ⟨w.heap.size, 2, none⟩) := hF 4 (by simp)
      have e5 : v 5 = xc := hF 5 (by simp)
      have e6 : v 6 = .pointer (some ⟨w.heap.size, 3, none⟩) := hF 6 (by simp)
      have e7 : v 7 = xd := hF 7 (by simp)
      have e11 : v 11 = .int .i64 (askE (seedW s) lb lc ld) := hF 11 (by simp)
      have e13 : v 13 = .int .i64 (askE (seedW s) lb lc ld) := hF 13 (by simp)
      obtain ⟨y9, e12, hy⟩ : ∃ y, v 12 = y ∧ BsS w1 (New w10r w1) y (askL (seedW s) lb lc ld) := hF 12 (by simp)
      simp only [List.drop_succ_cons, List.drop_zero, fillRG, Act.put, Nat.zero_add, Nat.reduceAdd, List.setIfInBounds_toArray, List.set_cons_zero, List.set_cons_succ]
      simp only [e12, e13]
      clear e0 e2 e3 e4 e5 e6 e7 e11 e12 e13
      have V11 : Hid (VV w1 [(y9, (askL (seedW s) lb lc ld)), (y8, (askL (seedW s) lb lc ld)), (v8, (askL la lb lc ld)), (v7, (askL la lb lc ld))]) := Lib.hid ((V10.out.on hJ).add hy)
      have B11 := Lib.hid (HB_w10r.out.trans (hJ.mono HB_w10r.out.size))
      obtain ⟨w11, hw11⟩ : ∃ w11, w11 = w1 := ⟨_, rfl⟩
      rw [← hw11] at V11 B11 ⊢
      clear hJ hF hy hw11
      go_wp2_with (first
        | (go_at_call 10; refine (awakeB_any w11 (HK.out.2.below B11.out HK.out.2.lt)).mono ?_; rintro e w12 ⟨rfl, hb⟩; have V12 := Lib.hid (V11.out.on hb); have B12 := Lib.hid (B11.out.trans (hb.mono B11.out.size)); clear hb)
        | (go_at_call 12; refine (seed_any s hsz w12 (HK.out.2.below B12.out HK.out.2.lt)).mono ?_; rintro e w13 ⟨v13, rfl, hs, hb⟩; have V13 := Lib.hid ((V12.out.on hb).add hs); have B13 := Lib.hid (B12.out.trans (hb.mono B12.out.size)); clear hb hs)
        | (go_at_call 9; refine (rseed_any s hsz w13 (HK.out.1.below B13.out HK.out.1.lt)).mono ?_; rintro e w14 ⟨v14, rfl, hs, hb⟩; have V14 := Lib.hid ((V13.out.on hb).add hs); have B14 := Lib.hid (B13.out.trans (hb.mono B13.out.size)); clear hb hs)
        | (go_at_call 11; refine (same_any _ _ (askL (seedW s) lb lc ld) (askL (seedW s) lb lc ld) _ _ w16 (V16.out.at 3 rfl) (V16.out.at 2 rfl)).mono ?_; rintro e w17 ⟨rfl, nd, hw⟩; rw [decide_eq_true (rfl : (askL (seedW s) lb lc ld) = (askL (seedW s) lb lc ld))]; have B17 := Lib.hid (below_drewN B16.out nd); rw [← hw] at B17; clear hw)
        | (go_at_call 11; refine (same_any _ _ (askL la lb lc ld) (askL la lb lc ld) _ _ w15 (V15.out.at 5 rfl) (V15.out.at 4 rfl)).mono ?_; rintro e w16 ⟨rfl, nd, hw⟩; rw [decide_eq_true (rfl : (askL la lb lc ld) = (askL la lb lc ld))]; have V16 := Lib.hid (V15.out.on (wq := w16) (by rw [hw]; exact below_drewN (Below.refl _ _) nd)); have B16 := Lib.hid (below_drewN B15.out nd); rw [← hw] at B16; clear hw)
        | (go_at_call 11; refine (same_any _ _ (seedW s) (seedW s) _ _ w14 (V14.out.at 1 rfl) (V14.out.at 0 rfl)).mono ?_; rintro e w15 ⟨rfl, nd, hw⟩; rw [decide_eq_true (rfl : seedW s = seedW s)]; have V15 := Lib.hid (V14.out.on (wq := w15) (by rw [hw]; exact below_drewN (Below.refl _ _) nd)); have B15 := Lib.hid (below_drewN B14.out nd); rw [← hw] at B15; clear hw))
      go_ret
      exact ⟨rfl, B17.out⟩
end Go.Proofs.YtjbmmdcnccclaaaDoor
