/- awake of layer 2, and the walk of TlvTags. -/
import Derived.Test.YtljalnfjneeieaaTlvF
import Derived.Test.YtljalnfjneeieaaStr
namespace Go.Proofs.Ytljalnfjneeieaa
open Go.RowKit Go.Deep

def L0 : Ns := .cons 48 [] (.cons 2 [5] .nil .nil) .nil
theorem enc0 : encP L0 = .ok [48, 3, 2, 1, 5] := by
  have h : (match encP L0 with | .ok l => l == [48, 3, 2, 1, 5] | .error _ => false) = true := by decide +kernel
  cases e : encP L0 with
  | error x => rw [e] at h; cases h
  | ok l => rw [e] at h; rw [eq_of_beq h]
theorem par0 : parseP [48, 3, 2, 1, 5] true = .ok L0 := by rfl
theorem lit0 {w : World} {p q r : Nat} (h1 : w.heap[p]? = some (.cells #[.int .u8 5] 5 (0, 0))) (h2 : w.heap[q]? = some (.cells #[.int .i64 2, .slice (some ⟨p, 0, none⟩) 1 1, .slice none 0 0] 42 (0, 0)))
    (h3 : w.heap[r]? = some (.cells #[.int .i64 48, .slice none 0 0, .slice (some ⟨q, 0, none⟩) 1 1] 42 (0, 0))) : NsS w (· < w.heap.size) (.slice (some ⟨r, 0, none⟩) 1 1) L0 := by
  obtain ⟨a0, a1, a2, _⟩ := three h2
  obtain ⟨b0, b1, b2, _⟩ := three h3
  have l1 := (Array.getElem?_eq_some_iff.1 h1).1
  have l2 := (Array.getElem?_eq_some_iff.1 h2).1
  have l3 := (Array.getElem?_eq_some_iff.1 h3).1
  have c0 : w.cell? ⟨p, 0, none⟩ = some (.int .u8 5) := cell_of_one h1
  refine ⟨_, 1, rfl, Nat.le_refl _, by simp [maxLen], by decide, fun _ => ⟨_, _, rfl, l3, l3, b0, ⟨by decide, by decide⟩, ⟨_, b1, BsS.nil0 _ _⟩, ⟨_, 1, b2, Nat.le_refl _, by simp [maxLen], by decide, fun _ => ⟨_, _, rfl, l2, l2, a0, ⟨by decide, by decide⟩, ⟨_, a1, ?_⟩, ⟨none, 0, a2, Nat.le_refl _, by simp [maxLen], by decide, fun h => by cases h⟩, trivial⟩⟩, trivial⟩⟩
  refine ⟨_, 1, rfl, by simp, by simp, by simp, fun _ => ⟨_, _, rfl, l1, fun j hj => ?_⟩⟩
  have : j = 0 := by simp at hj; omega
  subst this
  exact c0
theorem enc0_any (v : Value) (w : World) (hv : NsS w (· < w.heap.size) v L0) : Calls Try.prog 23 #[v] w fun e w' => ∃ a c, e = .returned (.tuple #[.slice a 5 c, .int .i64 0]) ∧ BsS w' (New w w') (.slice a 5 c) [48, 3, 2, 1, 5] ∧ Below w.heap.size w w' := by
  have h := encode_any L0 v w hv (by decide) (by decide +kernel)
  rw [enc0] at h
  exact h.mono fun _ _ h1 => by obtain ⟨a, c, h2, h3, h4⟩ := BytesOut.got h1; exact ⟨a, c, h2, h3, h4⟩
theorem par0_any (v : Value) (w : World) (hv : Bs w w.heap.size v [48, 3, 2, 1, 5]) : Calls Try.prog 22 #[v, .bool true] w fun e w' => ∃ b off c x xc, e = .returned (.tuple #[.slice (some ⟨b, off, none⟩) 1 c, .int .i64 0]) ∧ w'.cell? ⟨b, off + 2, none⟩ = some (.slice x 1 xc) ∧ Below w.heap.size w w' := by
  have h := parse_any [48, 3, 2, 1, 5] v true w hv
  rw [par0] at h
  refine h.mono fun _ _ h1 => ?_
  obtain ⟨a, c, h2, h3, h4⟩ := NodesOut.got h1
  obtain ⟨a', c', e, _, _, _, h5⟩ := h3
  injection e with e1 _ e3
  obtain ⟨b, off, e4, _, _, h6⟩ := h5 (by decide)
  obtain ⟨_, _, _, ⟨x, xc, h7, _⟩, _⟩ := h6
  exact ⟨b, off, c, x, xc, by rw [h2, e1, e4]; rfl, h7, h4⟩
set_option maxRecDepth 100000 in
set_option maxHeartbeats 1000000 in
theorem awake_any (w : World) : Calls Try.prog 11 #[] w fun e w' => e = .returned (.bool true) ∧ Below w.heap.size w w' := by
  obtain ⟨W3, hW3⟩ : ∃ W3, W3 = ((w.alloc (.cells #[.int .u8 5] 5)).alloc (.cells #[.int .i64 2, .slice (some ⟨w.heap.size, 0, none⟩) 1 1, .slice none 0 0] 42)).alloc (.cells #[.int .i64 48, .slice none 0 0, .slice (some ⟨w.heap.size + 1, 0, none⟩) 1 1] 42) := ⟨_, rfl⟩
  have hl : NsS W3 (· < W3.heap.size) (.slice (some ⟨w.heap.size + 1 + 1, 0, none⟩) 1 1) L0 := by
    refine lit0 (p := w.heap.size) (q := w.heap.size + 1) ?_ ?_ ?_
    · rw [hW3, Below.heap_alloc _ _ _ (by simp; omega), Below.heap_alloc _ _ _ (by simp)]; exact heap_alloc_new _ _
    · rw [hW3, Below.heap_alloc _ _ _ (by simp)]
      have := heap_alloc_new (w.alloc (.cells #[.int .u8 5] 5)) (.cells #[.int .i64 2, .slice (some ⟨w.heap.size, 0, none⟩) 1 1, .slice none 0 0] 42)
      simpa using this
    · rw [hW3]
      have := heap_alloc_new ((w.alloc (.cells #[.int .u8 5] 5)).alloc (.cells #[.int .i64 2, .slice (some ⟨w.heap.size, 0, none⟩) 1 1, .slice none 0 0] 42)) (.cells #[.int .i64 48, .slice none 0 0, .slice (some ⟨w.heap.size + 1, 0, none⟩) 1 1] 42)
      simpa using this
  have hb : Below w.heap.size w W3 := by rw [hW3]; exact (((Below.refl _ _).alloc (Nat.le_refl _) _).alloc (by simp) _).alloc (by simp; omega) _
  have HL := Lib.hid hl; have HB := Lib.hid hb; have HW := Lib.hid hW3
  clear hl hb hW3
  go_enter Try.func11, Try.ntmps11
  go_wp2_with fail
  rw [← HW.out]
  refine (enc0_any _ _ HL.out).mono ?_
  rintro e w4 ⟨a4, c4, rfl, hv4, hb4⟩
  have Hb4 := Lib.hid hb4; have Hv4 := Lib.hid hv4
  clear hb4 hv4
  go_wp2_with fail
  refine (par0_any _ _ ((lit_new w4 [48, 3, 2, 1, 5] _ (by simp) _ rfl).bs)).mono ?_
  rintro e w5 ⟨b5, o5, c5, x5, k5, rfl, hx5, hb5⟩
  have Hb5 := Lib.hid hb5
  have hs := str_run ((Hv4.out.keep (S' := fun _ => True) fun b hs hl => ⟨(Hb5.out.block b (by simp; omega)).trans (Below.heap_alloc _ _ _ hl), trivial⟩))
  clear hb5
  go_wp2_with fail
  go_ret
  have z3 := HB.out.size
  have z4 := Hb4.out.size
  exact ⟨rfl, (HB.out.trans (Hb4.out.mono z3)).trans (((Below.refl _ _).alloc (by omega) _).trans (Hb5.out.mono (by simp; omega)))⟩
set_option maxRecDepth 100000 in
set_option maxHeartbeats 1000000 in
theorem tlvTags_law (t : Int) (wf : (Lit.int .i64 t).wf = true) (w : World) : Calls Try.prog 3 #[.int .i64 t] w fun e w' => e = .returned (.bool true) ∧ Below w.heap.size w w' := by
  have ht : I64in t := by simp [Lit.wf, IntKind.min, IntKind.max, IntKind.signed, IntKind.bits] at wf; exact ⟨by omega, by omega⟩
  have V := Lib.hid (fun w => valid_any t ht w); have C := Lib.hid (fun w => cons_any t ht w)
  have RV := Lib.hid (fun w => rvalid_any t ht w); have RC := Lib.hid (fun w => rcons_any t ht w)
  clear wf ht
  go_enter Try.func3, Try.ntmps3
  go_wp2_with (first
    | (go_at_call 11; refine (awake_any _).mono ?_; rintro e w1 ⟨rfl, hb⟩; have Hb := Lib.hid hb; clear hb)
    | (go_at_call 12; refine (V.out _).mono ?_; rintro e w' ⟨rfl, rfl⟩)
    | (go_at_call 14; refine (C.out _).mono ?_; rintro e w' ⟨rfl, rfl⟩)
    | (go_at_call 13; refine (RV.out _).mono ?_; rintro e w' ⟨rfl, rfl⟩)
    | (go_at_call 15; refine (RC.out _).mono ?_; rintro e w' ⟨rfl, rfl⟩))
  go_ret
  exact ⟨by simp, Hb.out⟩
end Go.Proofs.Ytljalnfjneeieaa
