/- Layer 14: a number in four bytes; the object of a number; the key's bytes. -/
import Derived.Test.YtdpiehhblflacaaDoorIdent
import Derived.Test.YtdpiehhblflacaaDoorNodes
import Derived.Test.YtdpiehhblflacaaDoorQNodes2
import Derived.Deep.RegionHeld3
import Derived.Test.YtdpiehhblflacaaDoorReg
import Derived.Deep.RegionWith
namespace Go.Proofs.YtdpiehhblflacaaDoor
open Go.RowKit Go.Deep

/-- What a function answers that returns an object without kids. -/
def NodeOut (t : Int) (l : List UInt8) (w : World) (e : Ending) (w' : World) : Prop :=
  ∃ xv, e = .returned (.agg #[.int .i64 t, xv, .slice none 0 0]) ∧ BsS w' (New w w') xv l ∧ Below w.heap.size w w'
theorem node_three {w : World} {p : Nat} {a b c : Value} {t : TypeId} (h : w.heap[p]? = some (.cells #[a, b, c] t (0, 0))) : w.cell? ⟨p, 0, none⟩ = some a ∧ w.cell? ⟨p, 1, none⟩ = some b ∧ w.cell? ⟨p, 2, none⟩ = some c ∧ ∀ o, w.frozen? ⟨p, o, none⟩ = false := by
  refine ⟨?_, ?_, ?_, fun o => by simp [World.frozen?, h]⟩ <;> (rw [cell_of_row _ _ _ _ _ _ h]; rfl)
set_option maxRecDepth 100000 in
set_option maxHeartbeats 1000000 in
theorem number_any (n : Int) (w : World) : Calls Tryd.prog 46 #[.int .i64 n] w (NodeOut 2 [ofI n] w) := by
  have hh : ((w.alloc (.cells #[.int .i64 2, .slice (some ⟨w.heap.size + 1, 0, none⟩) 1 1, .slice none 0 0] 53)).alloc (.cells #[U8 (ofI n)] 5)).heap[w.heap.size]? = some (.cells #[.int .i64 2, .slice (some ⟨w.heap.size + 1, 0, none⟩) 1 1, .slice none 0 0] 53) := by
    show ((w.heap.push _).push _)[w.heap.size]? = _
    simp [Array.getElem?_push]
  obtain ⟨g0, g1, g2, _⟩ := node_three hh
  have hb := BsS.fresh (w.alloc (.cells #[.int .i64 2, .slice (some ⟨w.heap.size + 1, 0, none⟩) 1 1, .slice none 0 0] 53)) [ofI n] #[U8 (ofI n)] 5 rfl (fun b => w.heap.size ≤ b ∧ b < w.heap.size + 2) (by simp) (by simp)
  have HB := Lib.hid hb
  clear hh hb
  go_enter Tryd.func46, Tryd.ntmps46
  go_wp2_with fail
  refine bodyPost_ret (v := .agg #[.int .i64 2, .slice (some ⟨w.heap.size + 1, 0, none⟩) 1 1, .slice none 0 0]) (by simp [results, Tryd.results46, go_sem, g0, g1, g2]) rfl ⟨_, rfl, ?_, ((Below.refl _ _).alloc (Nat.le_refl _) _).alloc (by simp) _⟩
  have := HB.out.keep (w' := (w.alloc (.cells #[.int .i64 2, .slice (some ⟨w.heap.size + 1, 0, none⟩) 1 1, .slice none 0 0] 53)).alloc (.cells #[U8 (ofI n)] 5)) (S' := New w ((w.alloc (.cells #[.int .i64 2, .slice (some ⟨w.heap.size + 1, 0, none⟩) 1 1, .slice none 0 0] 53)).alloc (.cells #[U8 (ofI n)] 5))) fun b hs _ => ⟨rfl, hs.1, by have := hs.2; simp; omega⟩
  simpa using this
set_option maxRecDepth 100000 in
set_option maxHeartbeats 1000000 in
theorem four_any (k : Int) (w : World) (h0 : 0 ≤ k) (h1 : k < 4294967296) : Calls Tryd.prog 78 #[.int .i64 k] w fun e w' => ∃ v', e = .returned v' ∧ BsS w' (New w w') v' (fourB k) ∧ Below w.heap.size w w' := by
  have hb := BsS.fresh w (fourB k) #[U8 (ofI (k / 16777216)), U8 (ofI (k / 65536)), U8 (ofI (k / 256)), U8 (ofI k)] 5 rfl (fun b => w.heap.size ≤ b ∧ b < w.heap.size + 1) (by simp) (by simp [fourB])
  have HB := Lib.hid hb
  clear hb
  go_enter Tryd.func78, Tryd.ntmps78
  go_wp2_with fail
  go_ret
  refine ⟨_, rfl, ?_, (Below.refl _ _).alloc (Nat.le_refl _) _⟩
  have e : ∀ z : Int, Value.int .u8 (z % 256) = U8 (ofI z) := fun z => val_mod z
  have e0 : Value.int .u8 (k / 16777216) = U8 (ofI (k / 16777216)) := by rw [← val_mod, Int.emod_eq_of_lt (by omega) (by omega)]
  rw [e0, e, e, e]
  exact HB.out.keep fun b hs _ => ⟨rfl, hs.1, by have := hs.2; simp; omega⟩
set_option maxRecDepth 100000 in
set_option maxHeartbeats 1000000 in
theorem prim_any (t : Int) (v : Value) (l : List UInt8) (w : World) (hv : Bs w w.heap.size v l) : Calls Tryd.prog 77 #[.int .i64 t, v] w (NodeOut t l w) := by
  obtain ⟨a, n, c, rfl⟩ := hv.form
  have hv2 : Bs (w.alloc (.cells #[.int .i64 0, .slice none 0 0, .slice none 0 0] 53)) w.heap.size (.slice a n c) l := hv.below ((Below.refl _ _).alloc (Nat.le_refl _) _)
  have hll := hv.len
  have HV := Lib.hid hv2
  have hz : w.heap.size + 1 ≤ (w.alloc (.cells #[.int .i64 0, .slice none 0 0, .slice none 0 0] 53)).heap.size := by simp
  have hlt : w.heap.size < (w.alloc (.cells #[.int .i64 0, .slice none 0 0, .slice none 0 0] 53)).heap.size := by simp
  have hB0 : Below w.heap.size w (w.alloc (.cells #[.int .i64 0, .slice none 0 0, .slice none 0 0] 53)) := (Below.refl _ _).alloc (Nat.le_refl _) _
  have HB0 := Lib.hid hB0
  clear hv hv2 hB0
  go_enter Tryd.func77, Tryd.ntmps77
  go_wp2_with (at_builtin; (with_reducible refine wpList_more rfl (.const (.slice none 0 0)) (.tmp 6) rfl (w.heap.size + 1) (.slice none 0 0) [] rfl (OwnB.nil _ _) a n c l _ rfl HV.out (by simpa using hll) hz ?_); intro v1 w1 hgr; have H1 := Lib.hid hgr; obtain ⟨a1, c1, rfl⟩ := hgr.1.form; have hc := (hgr.2.2.1.block w.heap.size hlt (by simp [Value.ownBlock])).trans (heap_alloc_new _ _); obtain ⟨q0, q1, q2, qf⟩ := node_three hc; have f0 := qf 0; have f1 := qf 1; have f2 := qf 2; have HC := Lib.hid hc; clear hgr hc qf)
  obtain ⟨y0, y1, y2, _⟩ := node_three (three_set2 (u := .slice none 0 0) (three_set1 (u := .slice a1 l.length c1) (three_set0 (u := .int .i64 t) HC.out)))
  have hO : BsS w1 (fun b => w.heap.size + 1 ≤ b ∧ b < w1.heap.size) (.slice a1 l.length c1) l := BsS.of_own H1.out.1 (by simpa using hll)
  have hS : ∀ b, b ≠ w.heap.size → (((w1.setCell ⟨w.heap.size, 0, none⟩ (.int .i64 t)).setCell ⟨w.heap.size, 1, none⟩ (.slice a1 l.length c1)).setCell ⟨w.heap.size, 2, none⟩ (.slice none 0 0)).heap[b]? = w1.heap[b]? := fun b hb => by
    rw [Below.heap_setCell _ _ _ _ hb, Below.heap_setCell _ _ _ _ hb, Below.heap_setCell _ _ _ _ hb]
  exact bodyPost_ret (v := .agg #[.int .i64 t, .slice a1 l.length c1, .slice none 0 0]) (by simp [results, Tryd.results77, go_sem, y0, y1, y2]) rfl ⟨_, rfl, hO.keep fun b hs _ => ⟨hS b (by omega), by omega, by simpa using hs.2⟩, (((HB0.out.trans (H1.out.2.1.mono (by omega))).setCell (Nat.le_refl _) _).setCell (Nat.le_refl _) _).setCell (Nat.le_refl _) _⟩
set_option maxRecDepth 100000 in
set_option maxHeartbeats 1000000 in
theorem rcon_any (t : Int) (v : Value) (w : World) (hv : ∃ A n c, v = .slice A n c) : Calls Tryd.prog 54 #[.int .i64 t, v] w fun e w' => e = .returned (.agg #[.int .i64 t, .slice none 0 0, v]) ∧ Below w.heap.size w w' := by
  obtain ⟨A, n, c, rfl⟩ := hv
  obtain ⟨g0, g1, g2, _⟩ := node_three (heap_alloc_new w (.cells #[.int .i64 t, .slice none 0 0, .slice A n c] 53))
  go_enter Tryd.func54, Tryd.ntmps54
  go_wp2_with fail
  exact bodyPost_ret (v := .agg #[.int .i64 t, .slice none 0 0, .slice A n c]) (by simp [results, Tryd.results54, go_sem, g0, g1, g2]) rfl ⟨rfl, (Below.refl _ _).alloc (Nat.le_refl _) _⟩
theorem make4 (w : World) : (Instr.makeSlice 23 (.int .i64 4) (.int .i64 4)).run Tryd.prog w = .ok (.slice (some ⟨w.heap.size, 0, none⟩) 4 4) (w.alloc (.cells #[.int .u8 0, .int .u8 0, .int .u8 0, .int .u8 0] 5)) := by kernel_rfl
def octR (k : Int) (j : Nat) : Array Value := #[U8 (if 4 ≤ j then ofI (k / 16777216) else 0), U8 (if 3 ≤ j then ofI (k / 65536) else 0), U8 (if 2 ≤ j then ofI (k / 256) else 0), U8 (if 1 ≤ j then ofI k else 0)]
theorem row_set {w : World} {g o : Nat} {C : Array Value} {t : TypeId} {f : Nat × Nat} {v : Value} (h : w.heap[g]? = some (.cells C t f)) : (w.setCell ⟨g, o, none⟩ v).heap[g]? = some (.cells (C.set! o v) t f) := by
  unfold World.setCell
  simp [Array.getElem?_modify, h]
set_option maxRecDepth 100000 in
set_option maxHeartbeats 1000000 in
theorem octets_any (k : Int) (w : World) (h0 : 0 ≤ k) (h1 : k < 4294967296) : Calls Tryd.prog 70 #[.int .i64 k, .int .i64 4] w fun e w' => ∃ v', e = .returned (.tuple #[v', .int .i64 0]) ∧ BsS w' (New w w') v' (fourB k) ∧ Below w.heap.size w w' := by
  have g1 : decide (k < 0) = false := decide_eq_false (by omega)
  have g2 : (k / 4294967296 != 0) = false := by simp; omega
  have hm := make4 w
  have hB0 : Below w.heap.size w (w.alloc (.cells #[.int .u8 0, .int .u8 0, .int .u8 0, .int .u8 0] 5)) := (Below.refl _ _).alloc (Nat.le_refl _) _
  have HB0 := Lib.hid hB0
  clear hB0
  go_enter Tryd.func70, Tryd.ntmps70
  go_wp2_with fail
  go_loopg [26] 4 (fun m i wr => ∃ j n : Nat, n = m ∧ j + n = 4 ∧ i = .int .i64 j ∧ wr.heap[w.heap.size]? = some (.cells (octR k j) 5 (0, 0)) ∧ Below w.heap.size w wr)
  case atStart => exact ⟨0, 4, rfl, rfl, rfl, heap_alloc_new _ _, HB0.out⟩
  case round =>
    obtain ⟨j, n, rfl, hj, rfl, hr, hb⟩ := hrel
    have HB := Lib.hid hb; have HR := Lib.hid hr
    have hf : ∀ o, wr.frozen? ⟨w.heap.size, o, none⟩ = false := fun o => by simp [World.frozen?, hr]
    have hc : ∀ o, o < 4 → wr.cell? ⟨w.heap.size, o, none⟩ = (octR k j)[o]? := fun o ho => by rw [cell_of_row _ _ _ _ _ _ hr]
    clear hr hb
    obtain rfl | rfl | rfl | rfl | rfl : j = 0 ∨ j = 1 ∨ j = 2 ∨ j = 3 ∨ j = 4 := by omega
    · obtain rfl : n = 4 := by omega
      go_wp2_with fail
      go_roundg 3
      case measure => omega
      case rel =>
        have hs := row_set (o := 3) (v := .int .u8 (k % 256)) HR.out
        rw [show Value.int .u8 (k % 256) = U8 (ofI k) from val_mod k] at hs
        exact ⟨1, 3, rfl, rfl, rfl, hs, HB.out.setCell (Nat.le_refl _) _⟩
    · obtain rfl : n = 3 := by omega
      go_wp2_with fail
      go_roundg 2
      case measure => omega
      case rel =>
        have hs := row_set (o := 2) (v := .int .u8 (k / 256 % 256)) HR.out
        rw [show Value.int .u8 (k / 256 % 256) = U8 (ofI (k / 256)) from val_mod (k / 256)] at hs
        exact ⟨2, 2, rfl, rfl, rfl, hs, HB.out.setCell (Nat.le_refl _) _⟩
    · obtain rfl : n = 2 := by omega
      go_wp2_with fail
      go_roundg 1
      case measure => omega
      case rel =>
        have hs := row_set (o := 1) (v := .int .u8 (k / 65536 % 256)) HR.out
        rw [show Value.int .u8 (k / 65536 % 256) = U8 (ofI (k / 65536)) from val_mod (k / 65536)] at hs
        exact ⟨3, 1, rfl, rfl, rfl, hs, HB.out.setCell (Nat.le_refl _) _⟩
    · obtain rfl : n = 1 := by omega
      go_wp2_with fail
      go_roundg 0
      case measure => omega
      case rel =>
        have hs := row_set (o := 0) (v := .int .u8 (k / 16777216)) HR.out
        rw [show (octR k 3).set! 0 (.int .u8 (k / 16777216)) = octR k 4 by rw [show Value.int .u8 (k / 16777216) = U8 (ofI (k / 16777216)) by rw [← val_mod, Int.emod_eq_of_lt (by omega) (by omega)]]; rfl] at hs
        exact ⟨4, 0, rfl, rfl, rfl, hs, HB.out.setCell (Nat.le_refl _) _⟩
    · obtain rfl : n = 0 := by omega
      have hv := cells_of_row HR.out _ rfl
      go_wp2_with fail
      go_ret2
      refine ⟨_, rfl, ⟨_, _, rfl, Nat.le_refl _, by simp, by simp [fourB], fun _ => ⟨w.heap.size, 0, rfl, ⟨Nat.le_refl _, (Array.getElem?_eq_some_iff.1 HR.out).1⟩, fun i hi => ?_⟩⟩, HB.out⟩
      rw [Nat.zero_add, cell_of_row _ _ _ _ _ _ HR.out, ← Array.getElem?_toList, show (octR k 4).toList = (fourB k).map U8 from rfl]
      exact mapU8_get _ i hi
set_option maxHeartbeats 1000000 in
theorem elem_lt {k : Int} (h : elemP k = true) : 0 ≤ k ∧ k < 2147483579 := by
  unfold elemP at h
  simp at h
  omega
set_option maxRecDepth 100000 in
set_option maxHeartbeats 1000000 in
theorem gencode_any (k : Int) (w : World) (hk : elemP k = true) : Calls Tryd.prog 47 #[.int .i64 k] w fun e w' => ∃ v', e = .returned (.tuple #[v', .int .i64 0]) ∧ BsS w' (New w w') v' (fourB k) ∧ Below w.heap.size w w' := by
  have h1 := elem_lt hk
  have HE := Lib.hid (elem_any k)
  have HE2 := HE.out
  rw [hk] at HE2
  have HE3 := Lib.hid HE2
  have HO := Lib.hid (fun w => octets_any k w h1.1 (by omega))
  clear HE HE2 hk h1
  go_enter Tryd.func47, Tryd.ntmps47
  go_wp2_with (first
    | (go_at_call 64; refine (HE3.out _).mono ?_; rintro e w' ⟨rfl, hw'⟩; rw [hw']; clear hw' w')
    | (go_at_call 70; refine (HO.out _).mono ?_; rintro e w' ⟨v', rfl, h2, h3⟩; have H2 := Lib.hid h2; have H3 := Lib.hid h3; clear h2 h3))
  go_ret2
  exact ⟨_, rfl, H2.out, H3.out⟩
end Go.Proofs.YtdpiehhblflacaaDoor
/- Layer 14: the object of an info. -/
namespace Go.Proofs.YtdpiehhblflacaaDoor
open Go.RowKit Go.Deep

/-- A box that holds an info's object as far as it is made: y points to it, its kids lie in a row of the call's own. -/
structure ZAt (tg : Int) (B : Nat) (w0 w1 : World) (z : Nat) (o : Value) (L : Ns) : Prop where
  lo : B ≤ z
  box : w1.heap[z]? = some (.cells #[.int .i64 tg, .slice none 0 0, o] 53)
  own : OwnX w1 B (· = z) o L
  ne : o.ownBlock ≠ some z
  below : Below B w0 w1
theorem NsS.nilv (w : World) (S : Nat → Prop) : NsS w S (.slice none 0 0) .nil := ⟨none, 0, rfl, Nat.le_refl _, by simp [maxLen], by simp [Ns.len], fun h => by simp [Ns.len] at h⟩
theorem ZAt.lt {tg : Int} {B : Nat} {w0 w1 : World} {z : Nat} {o : Value} {L : Ns} (h : ZAt tg B w0 w1 z o L) : z < w1.heap.size := (Array.getElem?_eq_some_iff.1 h.box).1
theorem lt_of_own {w : World} {base : Nat} {X : Nat → Prop} {o : Value} {L : Ns} (h : OwnX w base X o L) {b : Nat} (e : o.ownBlock = some b) : b < w.heap.size := by
  obtain ⟨xs, h1, _⟩ := h
  exact (h1.lt b e).2
theorem ZAt.later {tg : Int} {B : Nat} {w0 w1 w2 : World} {z : Nat} {o : Value} {L : Ns} (h : ZAt tg B w0 w1 z o L) (hB : B ≤ w1.heap.size) (hb : Below w1.heap.size w1 w2) : ZAt tg B w0 w2 z o L :=
  ⟨h.lo, (hb.block z h.lt).trans h.box, h.own.below hb, h.ne, h.below.trans (hb.mono hB)⟩
theorem ZAt.push {tg : Int} {B : Nat} {w0 w1 w' : World} {z : Nat} {o o' : Value} {L M : Ns} (h : ZAt tg B w0 w1 z o L) (hG : GrewX w1 w' B (· = z) o o' M) : ZAt tg B w0 (w'.setCell ⟨z, 2, none⟩ o') z o' M := by
  obtain ⟨g1, g2, g3, g4⟩ := hG
  have h6 := row_set (o := 2) (v := o') ((g3.block z h.lt (fun e => h.ne e.symm)).trans h.box)
  have h7 : o'.ownBlock ≠ some z := fun e => g4.elim (fun h' => h.ne (h' ▸ e)) fun h' => by rw [h'] at e; injection e with e; have := h.lt; omega
  refine ⟨h.lo, h6, g1.kept (by simp [World.setCell]) (fun b _ _ hn => Below.heap_setCell _ _ _ _ hn) (fun b hb hx => h7 (by rw [hb, hx])), h7, (h.below.trans g2).setCell h.lo _⟩
/-- What object answers. -/
def ObjEnd (x : Inf) (w : World) (e : Ending) (w' : World) : Prop :=
  ∃ kv, e = .returned (.agg #[.int .i64 48, .slice none 0 0, kv]) ∧ NsS w' (New w w') kv (kidsI x) ∧ Below w.heap.size w w'
theorem iobject_end {x : Inf} {w w0 w1 : World} {z : Nat} {o : Value} (h : ZAt 48 w0.heap.size w0 w1 z o (kidsI x)) (hz : w0.heap.size = w.heap.size + 2) (hb : Below w.heap.size w w0) :
    ObjEnd x w (.returned (.agg #[.int .i64 48, .slice none 0 0, o])) (((w1.setCell ⟨w.heap.size + 1, 0, none⟩ (.int .i64 48)).setCell ⟨w.heap.size + 1, 1, none⟩ (.slice none 0 0)).setCell ⟨w.heap.size + 1, 2, none⟩ o) := by
  have hl : (kidsI x).len ≤ 2513169434843 := by simp only [kidsI, numN, Ns.len]; unfold moreN numN; (repeat' split) <;> simp [Ns.len]
  refine ⟨o, rfl, (h.own.nss hl).keep fun b hs hb' => ⟨?_, by omega, by simpa [World.setCell] using hs.2⟩, (((hb.trans (h.below.mono (by omega))).setCell (by simp) _).setCell (by simp) _).setCell (by simp) _⟩
  have hne : b ≠ w.heap.size + 1 := by omega
  rw [Below.heap_setCell _ _ _ _ hne, Below.heap_setCell _ _ _ _ hne, Below.heap_setCell _ _ _ _ hne]
set_option maxRecDepth 100000 in
set_option maxHeartbeats 4000000 in
theorem iobject_any (x : Inf) (w : World) (hT : TabE w) (hx : chkI x = 0) : Calls Tryd.prog 28 #[.agg x.cells] w (ObjEnd x w) := by
  obtain ⟨p, ve, r, k, d⟩ := x
  show Calls Tryd.prog 28 #[.agg #[.int .i64 p, .int .i64 ve, .int .i64 r, .int .i64 k, .int .i64 d]] w _
  have hp : 2 ≤ p ∧ p ≤ 6 := by
    unfold chkI chkB at hx
    rcases Decidable.em (2 ≤ p ∧ p ≤ 6) with h | h
    · exact h
    · simp only [h, not_false_eq_true, if_true] at hx; omega
  go_enter Tryd.func28, Tryd.ntmps28
  go_upto_region 1 with fail
  obtain ⟨w0, hw0⟩ : ∃ w0, w0 = (w.alloc (.cells #[.int .i64 p, .int .i64 ve, .int .i64 r, .int .i64 k, .int .i64 d] 45)).alloc (.cells #[.int .i64 0, .slice none 0 0, .slice none 0 0] 53) := ⟨_, rfl⟩
  rw [← hw0]
  have hz0 : w0.heap.size = w.heap.size + 2 := by rw [hw0]; simp
  have hbx : w0.heap[w.heap.size]? = some (.cells #[.int .i64 p, .int .i64 ve, .int .i64 r, .int .i64 k, .int .i64 d] 45 (0, 0)) := by rw [hw0]; exact (Below.heap_alloc _ _ _ (by simp)).trans (heap_alloc_new _ _)
  have hres : w0.heap[w.heap.size + 1]? = some (.cells #[.int .i64 0, .slice none 0 0, .slice none 0 0] 53) := by rw [hw0]; have := heap_alloc_new (w.alloc (.cells #[.int .i64 p, .int .i64 ve, .int .i64 r, .int .i64 k, .int .i64 d] 45)) (.cells #[.int .i64 0, .slice none 0 0, .slice none 0 0] 53); simpa using this
  have HRES := Lib.hid hres
  clear hres
  have hB0 : Below w.heap.size w w0 := by rw [hw0]; exact ((Below.refl _ _).alloc (Nat.le_refl _) _).alloc (by simp) _
  have x0 : w0.cell? ⟨w.heap.size, 0, none⟩ = some (.int .i64 p) := by rw [cell_of_row _ _ _ _ _ _ hbx]; rfl
  have x1 : w0.cell? ⟨w.heap.size, 1, none⟩ = some (.int .i64 ve) := by rw [cell_of_row _ _ _ _ _ _ hbx]; rfl
  have hT0 : TabE w0 := hT.below hB0 hT.lt
  have HI := Lib.hid (fun (W1 : World) (h : Below w0.heap.size w0 W1) => ident_any p W1 hp (hT0.below h hT0.lt))
  have HX1 := Lib.hid (fun (W1 : World) (h : Below w0.heap.size w0 W1) => (h.cell (p := ⟨w.heap.size, 1, none⟩) (by simp; omega)).trans x1)
  have HX0 := Lib.hid (fun (W1 : World) (h : Below w0.heap.size w0 W1) => (h.cell (p := ⟨w.heap.size, 0, none⟩) (by simp; omega)).trans x0)
  have HBX := Lib.hid hbx; have HB0 := Lib.hid hB0; have HZ := Lib.hid hz0; have HT0 := Lib.hid hT0
  clear hbx hB0 hT hT0 hw0
  have HN := Lib.hid (number_any ve)
  obtain ⟨B, hBe⟩ : ∃ B, B = w0.heap.size := ⟨_, rfl⟩
  obtain ⟨gx, hgx⟩ : ∃ gx, gx = w.heap.size := ⟨_, rfl⟩
  go_cut [3] from 6 to 14 (fun y wc => ∃ z o, y = .pointer (some ⟨z, 0, none⟩) ∧ ZAt 48 w0.heap.size w0 wc z o (.cons 6 (identB p) .nil (numN ve .nil)))
  case first =>
   refine wp_region_rg 10 [some 6, some 7, some 8, some 9, some 10, some 11, some 12, some 13, some 14, some 3] [[], [0], [0, 1], [0, 1, 2], [], [4], [0, 1, 2, 4, 5], [0, 1, 2, 3, 4, 5, 6], [0, 1, 2, 3, 4, 5, 6, 7], []]
     (fun _ _ w1 => Below w0.heap.size w0 w1) (fun w1 w2 => Below w1.heap.size w1 w2)
     [fun v _ => v 0 = .pointer (some ⟨w.heap.size, 0, none⟩),
      fun v _ => v 1 = .int .i64 p,
      fun v w1 => BsS w1 (New w0 w1) (v 2) (identB p),
      fun v _ => v 3 = .agg #[.int .i64 6, v 2, .slice none 0 0],
      fun v _ => v 4 = .pointer (some ⟨w.heap.size, 1, none⟩),
      fun v _ => v 5 = .int .i64 ve,
      fun v w1 => ∃ xv, v 6 = .agg #[.int .i64 2, xv, .slice none 0 0] ∧ BsS w1 (New w0 w1) xv [ofI ve],
      fun v w1 => ∃ xv g, v 6 = .agg #[.int .i64 2, xv, .slice none 0 0] ∧ v 7 = .slice (some ⟨g, 0, none⟩) 2 2 ∧ w0.heap.size ≤ g ∧ w1.heap[g]? = some (.cells #[.int .i64 6, v 2, .slice none 0 0, .int .i64 2, xv, .slice none 0 0] 53),
      fun v _ => v 8 = .agg #[.int .i64 48, .slice none 0 0, v 7],
      fun v w1 => ∃ z, v 9 = .pointer (some ⟨z, 0, none⟩) ∧ w0.heap.size ≤ z ∧ w1.heap[z]? = some (.cells #[.int .i64 0, .slice none 0 0, .slice none 0 0] 53)]
     (by kernel_rfl) (by kernel_rfl) (fun _ => (Below.refl _ _).drew) ?st ?steps ?tail
   case st =>
     exact .cons (fun _ _ _ _ _ _ h => h) (.cons (fun _ _ _ _ _ _ h => h) (.cons (fun _ _ _ _ _ hr h => BsS.keep h fun b hs hl => ⟨hr.block b hl, hs.1, Nat.lt_of_lt_of_le hs.2 hr.size⟩) (.cons (fun _ _ _ _ _ _ h => h) (.cons (fun _ _ _ _ _ _ h => h) (.cons (fun _ _ _ _ _ _ h => h)
       (.cons (fun _ _ _ _ _ hr ⟨xv, e, h⟩ => ⟨xv, e, BsS.keep h fun b hs hl => ⟨hr.block b hl, hs.1, Nat.lt_of_lt_of_le hs.2 hr.size⟩⟩)
       (.cons (fun _ _ _ _ _ hr ⟨xv, g, e, e2, h1, h2⟩ => ⟨xv, g, e, e2, h1, (hr.block g (Array.getElem?_eq_some_iff.1 h2).1).trans h2⟩)
       (.cons (fun _ _ _ _ _ _ h => h)
       (.cons (fun _ _ _ _ _ hr ⟨z, e, h1, h2⟩ => ⟨z, e, h1, (hr.block z (Array.getElem?_eq_some_iff.1 h2).1).trans h2⟩) .nil)))))))))
   case steps =>
     simp only [List.take_succ_cons, List.take_zero]
     refine .cons ?_ (.cons ?_ (.cons ?_ (.cons ?_ (.cons ?_ (.cons ?_ (.cons ?_ (.cons ?_ (.cons ?_ (.cons ?_ .nil)))))))))
     all_goals (intro L v w1 hJ hL hA hF K hK; simp only [fillRG, Act.put, Nat.zero_add, Nat.reduceAdd, List.setIfInBounds_toArray, List.set_cons_zero, List.set_cons_succ] at hK ⊢)
     · go_simp
       exact hK _ _ hJ (Below.refl _ _) rfl
     · have e0 : v 0 = .pointer (some ⟨w.heap.size, 0, none⟩) := hF 0 (hA 0 (by simp))
       have c0 := HX0.out _ hJ
       simp only [e0] at hK
       go_simp
       exact hK _ _ hJ (Below.refl _ _) rfl
     · have e1 : v 1 = .int .i64 p := hF 1 (hA 1 (by simp))
       simp only [e1] at hK
       go_simp
       refine (HI.out _ hJ).mono ?_
       rintro e w5 ⟨v5, rfl, h1, h2⟩
       exact hK _ _ (hJ.trans (h2.mono hJ.size)) h2 (h1.keep fun b hs _ => ⟨rfl, Nat.le_trans hJ.size hs.1, hs.2⟩)
     · have e2 : BsS w1 (New w0 w1) (v 2) (identB p) := hF 2 (hA 2 (by simp))
       obtain ⟨a5, c5, r5⟩ := e2.form2
       clear e2
       simp only [r5] at hK
       go_simp
       refine hK _ _ hJ (Below.refl _ _) ?_
       show _ = Value.agg #[_, v 2, _]
       rw [r5]
       exact rfl
     · go_simp
       exact hK _ _ hJ (Below.refl _ _) rfl
     · have e0 : v 4 = .pointer (some ⟨w.heap.size, 1, none⟩) := hF 4 (hA 4 (by simp))
       have c0 := HX1.out _ hJ
       simp only [e0] at hK
       go_simp
       exact hK _ _ hJ (Below.refl _ _) rfl
     · have e1 : v 5 = .int .i64 ve := hF 5 (hA 5 (by simp))
       simp only [e1] at hK
       go_simp
       refine (HN.out _).mono ?_
       rintro e w5 ⟨v5, rfl, h1, h2⟩
       exact hK _ _ (hJ.trans (h2.mono hJ.size)) h2 ⟨_, rfl, h1.keep fun b hs _ => ⟨rfl, Nat.le_trans hJ.size hs.1, hs.2⟩⟩
     · have e3 : v 3 = .agg #[.int .i64 6, v 2, .slice none 0 0] := hF 3 (hA 3 (by simp))
       have e2 : BsS w1 (New w0 w1) (v 2) (identB p) := hF 2 (hA 2 (by simp))
       obtain ⟨xv, e6, h6⟩ : ∃ xv, v 6 = .agg #[.int .i64 2, xv, .slice none 0 0] ∧ BsS w1 (New w0 w1) xv [ofI ve] := hF 6 (hA 6 (by simp))
       obtain ⟨a5, c5, r5⟩ := e2.form2
       obtain ⟨a6, c6, rfl⟩ := h6.form2
       rw [r5] at e3
       clear e2 h6
       simp only [e3, e6, r5] at hK
       go_simp
       refine hK _ _ (hJ.alloc hJ.size _) ((Below.refl _ _).alloc (Nat.le_refl _) _) ⟨_, _, e6, rfl, hJ.size, ?_⟩
       show _ = some (Obj.cells #[_, v 2, _, _, _, _] _ _)
       rw [r5]
       exact heap_alloc_new _ _
     · obtain ⟨xv, g, e6, e7, hg, h7⟩ : ∃ xv g, v 6 = .agg #[.int .i64 2, xv, .slice none 0 0] ∧ v 7 = .slice (some ⟨g, 0, none⟩) 2 2 ∧ w0.heap.size ≤ g ∧ w1.heap[g]? = some (.cells #[.int .i64 6, v 2, .slice none 0 0, .int .i64 2, xv, .slice none 0 0] 53) := hF 7 (hA 7 (by simp))
       clear e6 hg h7
       simp only [e7] at hK
       go_simp
       refine hK _ _ hJ (Below.refl _ _) ?_
       show _ = Value.agg #[_, _, v 7]
       rw [e7]
       exact rfl
     · go_simp
       exact hK _ _ (hJ.alloc hJ.size _) ((Below.refl _ _).alloc (Nat.le_refl _) _) ⟨_, rfl, hJ.size, heap_alloc_new _ _⟩
   case tail =>
     intro v w1 hJ hF
     have e2 : BsS w1 (New w0 w1) (v 2) (identB p) := hF 2 (by simp)
     obtain ⟨xv, g, e6, e7, hg, h7⟩ : ∃ xv g, v 6 = .agg #[.int .i64 2, xv, .slice none 0 0] ∧ v 7 = .slice (some ⟨g, 0, none⟩) 2 2 ∧ w0.heap.size ≤ g ∧ w1.heap[g]? = some (.cells #[.int .i64 6, v 2, .slice none 0 0, .int .i64 2, xv, .slice none 0 0] 53) := hF 7 (by simp)
     obtain ⟨xv', e6', h6⟩ : ∃ xv, v 6 = .agg #[.int .i64 2, xv, .slice none 0 0] ∧ BsS w1 (New w0 w1) xv [ofI ve] := hF 6 (by simp)
     have e8 : v 8 = .agg #[.int .i64 48, .slice none 0 0, v 7] := hF 8 (by simp)
     obtain ⟨z, e9, hz, hcz⟩ : ∃ z, v 9 = .pointer (some ⟨z, 0, none⟩) ∧ w0.heap.size ≤ z ∧ w1.heap[z]? = some (.cells #[.int .i64 0, .slice none 0 0, .slice none 0 0] 53) := hF 9 (by simp)
     obtain rfl : xv' = xv := by rw [e6] at e6'; injection e6' with e; simp only [Array.mk.injEq, List.cons.injEq] at e; exact e.2.1.symm
     simp only [List.drop_succ_cons, List.drop_zero, fillRG, Act.put, Nat.zero_add, Nat.reduceAdd, List.setIfInBounds_toArray, List.set_cons_zero, List.set_cons_succ]
     obtain ⟨p0, p1, p2, pf⟩ := node_three hcz
     have f0 := pf 0; have f1 := pf 1; have f2 := pf 2
     clear pf
     have hgz : g ≠ z := fun e => by subst e; rw [hcz] at h7; injection h7 with h7; injection h7 with h7; simp at h7
     have hX : ∀ {xv l}, BsS w1 (New w0 w1) xv l → BsS w1 (fun b => New w0 w1 b ∧ b ≠ z) xv l := fun h => BsS.off h hcz (by intro i x; match i with | 0 => simp [U8] | 1 => simp [U8] | 2 => simp [U8] | i + 3 => simp)
     have hX2 : ∀ {xv l}, BsS w1 (New w0 w1) xv l → BsS w1 (fun b => (New w0 w1 b ∧ b ≠ z) ∧ b ≠ g) xv l := by
       obtain ⟨a5, c5, r5⟩ := e2.form2
       obtain ⟨a6, c6, r6⟩ := h6.form2
       exact fun h => BsS.off (hX h) h7 (by intro i x; match i with | 0 => simp [U8] | 1 => simp [U8, r5] | 2 => simp [U8] | 3 => simp [U8] | 4 => simp [U8, r6] | 5 => simp [U8] | i + 6 => simp)
     have hown : OwnX w1 w0.heap.size (· = z) (.slice (some ⟨g, 0, none⟩) 2 2) (.cons 6 (identB p) .nil (numN ve .nil)) := by
       have hk : ∀ b, ((New w0 w1 b ∧ b ≠ z) ∧ b ≠ g) → b < w1.heap.size → w1.heap[b]? = w1.heap[b]? ∧ OffX w0.heap.size (· = z) w1 (.slice (some ⟨g, 0, none⟩) 2 2) b := fun b hs hl => ⟨rfl, ⟨hl, fun e => hs.2 (by injection e with e; exact e.symm), hs.1.1.1⟩, hs.1.2⟩
       refine ⟨[.int .i64 6, v 2, .slice none 0 0, .int .i64 2, xv', .slice none 0 0], ⟨rfl, .inr ⟨g, 2, _, rfl, hg, h7, Nat.le_refl _, by simp [maxLen], rfl, rfl⟩⟩, ?_⟩
       refine ⟨v 2, .slice none 0 0, _, rfl, by simp [I64in], (hX2 e2).keep hk, NsS.nilv _ _, xv', .slice none 0 0, _, rfl, by simp [I64in], (hX2 h6).keep hk, NsS.nilv _ _, rfl⟩
     have HZA := Lib.hid (show ZAt 48 w0.heap.size w0 (((w1.setCell ⟨z, 0, none⟩ (.int .i64 48)).setCell ⟨z, 1, none⟩ (.slice none 0 0)).setCell ⟨z, 2, none⟩ (.slice (some ⟨g, 0, none⟩) 2 2)) z (.slice (some ⟨g, 0, none⟩) 2 2) (.cons 6 (identB p) .nil (numN ve .nil)) from by
       refine ⟨hz, row_set (row_set (row_set hcz)), hown.kept (by simp [World.setCell]) (fun b _ _ hn => ?_) (fun b hb => ?_), ?_, ((hJ.setCell hz _).setCell hz _).setCell hz _⟩
       · rw [Below.heap_setCell _ _ _ _ hn, Below.heap_setCell _ _ _ _ hn, Below.heap_setCell _ _ _ _ hn]
       · intro hx; simp [Value.ownBlock] at hb; omega
       · simp [Value.ownBlock]; exact hgz)
     clear hJ hF h7 e2 h6 hcz hz hg e6 hown hX hX2
     rw [e7] at e8
     go_wp2_with fail
     go_meet
     exact ⟨_, _, e9, HZA.out⟩
  case rest =>
    obtain ⟨z, o, rfl, hza⟩ := hcut
    have hbxc : wc.heap[w.heap.size]? = some (.cells #[.int .i64 p, .int .i64 ve, .int .i64 r, .int .i64 k, .int .i64 d] 45 (0, 0)) := (hza.below.block _ (by have := HZ.out; omega)).trans HBX.out
    have x0 : wc.cell? ⟨w.heap.size, 0, none⟩ = some (.int .i64 p) := by rw [cell_of_row _ _ _ _ _ _ hbxc]; rfl
    have HBC := Lib.hid hbxc
    have HZA := Lib.hid hza
    clear hbxc hza
    by_cases hm : p = 2 ∨ p = 3
    · have HM : Hid (∀ w, Calls Tryd.prog 43 #[.int .i64 p] w fun e w' => e = .returned (.bool true) ∧ w' = w) := Lib.hid (by have := mapped_any p; rw [show (decide (p = 2) || decide (p = 3)) = true by simp [hm]] at this; exact this)
      have HP := Lib.hid hm
      clear hm
      go_upto_region 3 with (go_at_call 43; refine (HM.out _).mono ?_; rintro e w' ⟨rfl, hw'⟩; rw [hw']; clear hw' w')
      obtain ⟨ao, co, ho⟩ : ∃ A c, o = .slice A 2 c := HZA.out.own.form
      subst ho
      have x2 : ∀ W, Below wc.heap.size wc W → W.cell? ⟨w.heap.size, 2, none⟩ = some (.int .i64 r) := fun W h => (h.cell (p := ⟨w.heap.size, 2, none⟩) (Array.getElem?_eq_some_iff.1 HBC.out).1).trans (by rw [cell_of_row _ _ _ _ _ _ HBC.out]; rfl)
      have z2 : ∀ W, Below wc.heap.size wc W → W.cell? ⟨z, 2, none⟩ = some (.slice ao 2 co) := fun W h => (h.cell (p := ⟨z, 2, none⟩) HZA.out.lt).trans (by rw [cell_of_row _ _ _ _ _ _ HZA.out.box]; rfl)
      have X2 := Lib.hid x2; have Z2 := Lib.hid z2; have X0 := Lib.hid x0
      clear x2 z2 x0
      have HR := Lib.hid (number_any r)
      refine wp_region_rg 6 [some 19, some 20, some 21, some 22, some 23, some 24] [[], [0], [], [2], [2, 3], [2, 3, 4]]
        (fun _ _ w1 => Below wc.heap.size wc w1) (fun w1 w2 => Below w1.heap.size w1 w2)
        [fun v _ => v 0 = .pointer (some ⟨z, 2, none⟩),
         fun v _ => v 1 = .slice ao 2 co,
         fun v _ => v 2 = .pointer (some ⟨w.heap.size, 2, none⟩),
         fun v _ => v 3 = .int .i64 r,
         fun v w1 => ∃ a c, v 4 = .agg #[.int .i64 2, .slice a 1 c, .slice none 0 0] ∧ BsS w1 (New wc w1) (.slice a 1 c) [ofI r],
         fun v w1 => ∃ a c g, v 5 = .slice (some ⟨g, 0, none⟩) 1 1 ∧ wc.heap.size ≤ g ∧ BsS w1 (fun b => New wc w1 b) (.slice a 1 c) [ofI r] ∧ w1.heap[g]? = some (.cells #[.int .i64 2, .slice a 1 c, .slice none 0 0] 53)]
        (by kernel_rfl) (by kernel_rfl) (fun _ => (Below.refl _ _).drew) ?st ?steps ?tail
      case st =>
        exact .cons (fun _ _ _ _ _ _ h => h) (.cons (fun _ _ _ _ _ _ h => h) (.cons (fun _ _ _ _ _ _ h => h) (.cons (fun _ _ _ _ _ _ h => h)
          (.cons (fun _ _ _ _ _ hr ⟨a, c, e, h⟩ => ⟨a, c, e, BsS.keep h fun b hs hl => ⟨hr.block b hl, hs.1, Nat.lt_of_lt_of_le hs.2 hr.size⟩⟩)
          (.cons (fun _ _ _ _ _ hr ⟨a, c, g, e, h1, h, h2⟩ => ⟨a, c, g, e, h1, BsS.keep h fun b hs hl => ⟨hr.block b hl, hs.1, Nat.lt_of_lt_of_le hs.2 hr.size⟩, (hr.block g (Array.getElem?_eq_some_iff.1 h2).1).trans h2⟩) .nil)))))
      case steps =>
        simp only [List.take_succ_cons, List.take_zero]
        refine .cons ?_ (.cons ?_ (.cons ?_ (.cons ?_ (.cons ?_ (.cons ?_ .nil)))))
        all_goals (intro L v w1 hJ hL hA hF K hK; simp only [fillRG, Act.put, Nat.zero_add, Nat.reduceAdd, List.setIfInBounds_toArray, List.set_cons_zero, List.set_cons_succ] at hK ⊢)
        · go_simp
          exact hK _ _ hJ (Below.refl _ _) rfl
        · have e0 : v 0 = .pointer (some ⟨z, 2, none⟩) := hF 0 (hA 0 (by simp))
          have c0 := Z2.out _ hJ
          simp only [e0] at hK
          go_simp
          exact hK _ _ hJ (Below.refl _ _) rfl
        · go_simp
          exact hK _ _ hJ (Below.refl _ _) rfl
        · have e0 : v 2 = .pointer (some ⟨w.heap.size, 2, none⟩) := hF 2 (hA 2 (by simp))
          have c0 := X2.out _ hJ
          simp only [e0] at hK
          go_simp
          exact hK _ _ hJ (Below.refl _ _) rfl
        · have e1 : v 3 = .int .i64 r := hF 3 (hA 3 (by simp))
          simp only [e1] at hK
          go_simp
          refine (HR.out _).mono ?_
          rintro e w5 ⟨v5, rfl, h1, h2⟩
          obtain ⟨a5, c5, rfl⟩ := h1.form2
          exact hK _ _ (hJ.trans (h2.mono hJ.size)) h2 ⟨_, _, rfl, h1.keep fun b hs _ => ⟨rfl, Nat.le_trans hJ.size hs.1, hs.2⟩⟩
        · obtain ⟨a5, c5, e4, h4⟩ : ∃ a c, v 4 = .agg #[.int .i64 2, .slice a 1 c, .slice none 0 0] ∧ BsS w1 (New wc w1) (.slice a 1 c) [ofI r] := hF 4 (hA 4 (by simp))
          have H4 := Lib.hid h4
          clear h4
          simp only [e4] at hK
          go_simp
          exact hK _ _ (hJ.alloc hJ.size _) ((Below.refl _ _).alloc (Nat.le_refl _) _) ⟨_, _, _, rfl, hJ.size, H4.out.keep fun b hs hl => ⟨Below.heap_alloc _ _ _ hl, hs.1, by have := hs.2; simp; omega⟩, heap_alloc_new _ _⟩
      case tail =>
        intro v w1 hJ hF
        have e0 : v 0 = .pointer (some ⟨z, 2, none⟩) := hF 0 (by simp)
        have e1 : v 1 = .slice ao 2 co := hF 1 (by simp)
        obtain ⟨a5, c5, g, e5, hg, hbs, hgc⟩ : ∃ a c g, v 5 = .slice (some ⟨g, 0, none⟩) 1 1 ∧ wc.heap.size ≤ g ∧ BsS w1 (fun b => New wc w1 b) (.slice a 1 c) [ofI r] ∧ w1.heap[g]? = some (.cells #[.int .i64 2, .slice a 1 c, .slice none 0 0] 53) := hF 5 (by simp)
        simp only [List.drop_succ_cons, List.drop_zero, fillRG, Act.put, Nat.zero_add, Nat.reduceAdd, List.setIfInBounds_toArray, List.set_cons_zero, List.set_cons_succ]
        have hza := HZA.out.later HZA.out.below.size hJ
        have hbs2 : BsS w1 (OffX w0.heap.size (· = z) w1 (.slice ao 2 co)) (.slice a5 1 c5) [ofI r] := hbs.keep fun b hs hl => ⟨rfl, ⟨hl, fun e => by have := lt_of_own HZA.out.own e; have := hs.1; omega, Nat.le_trans HZA.out.below.size hs.1⟩, fun e => by have := HZA.out.lt; have := hs.1; omega⟩
        have HM3 : Hid (EachN w1 (OffX w0.heap.size (· = z) w1 (.slice ao 2 co)) (numN r .nil) [.int .i64 2, .slice a5 1 c5, .slice none 0 0]) := Lib.hid ⟨_, _, _, rfl, by simp [I64in], hbs2, NsS.nilv _ _, rfl⟩
        have HGC := Lib.hid hgc; have HZ1 := Lib.hid hza; have HJ := Lib.hid hJ
        have hnz : ¬ w1.heap.size = z := fun e => by have := hza.lt; omega
        have hw01 : w0.heap.size ≤ w1.heap.size := Nat.le_trans HZA.out.below.size hJ.size
        clear hbs hbs2 hgc hza hJ hF hg
        have HM1 : Hid (1 = (numN r .nil).len) := Lib.hid rfl
        have hml : (Ns.cons 6 (identB p) .nil (numN ve .nil)).len + (numN r .nil).len ≤ 1000000000000 := by simp [Ns.len, numN]
        go_wp2_with (at_builtin; (with_reducible refine wpList_nodes rfl (.tmp 20) (.tmp 24) rfl w0.heap.size (· = z) (.slice ao 2 co) (.cons 6 (identB p) .nil (numN ve .nil)) (numN r .nil) (by simp [Act.eval, e1]) HZ1.out.own g 1 [.int .i64 2, .slice a5 1 c5, .slice none 0 0] #[.int .i64 2, .slice a5 1 c5, .slice none 0 0] 53 (0, 0) (by simp [Act.eval, e5]) HM1.out HGC.out rfl HM3.out hml hw01 hnz ?_); intro o' w' hG; obtain ⟨ao2, co2, rfl⟩ : ∃ A c, o' = .slice A 3 c := hG.1.form; have hzc := (hG.2.2.1.block z HZ1.out.lt (fun e => HZ1.out.ne e.symm)).trans HZ1.out.box; obtain ⟨q0, q1, q2, qf⟩ := node_three hzc; have f2 := qf 2; have hp1 := HZ1.out.push hG; have HP1 := Lib.hid hp1; obtain ⟨r0, r1, r2, rf⟩ := node_three ((hp1.below.block (w.heap.size + 1) (by have := HZ.out; omega)).trans HRES.out); have rf0 := rf 0; have rf1 := rf 1; have rf2 := rf 2; clear hG qf hzc hp1 rf)
        go_wp2_with fail
        obtain ⟨y0, y1, y2, _⟩ := node_three (row_set (o := 2) (v := .slice ao2 3 co2) (row_set (o := 1) (v := .slice none 0 0) (row_set (o := 0) (v := .int .i64 48) ((HP1.out.below.block (w.heap.size + 1) (by have := HZ.out; omega)).trans HRES.out))))
        have hk : kidsI ⟨p, ve, r, k, d⟩ = (Ns.cons 6 (identB p) .nil (numN ve .nil)).app (numN r .nil) := by simp only [kidsI, moreN]; rw [if_pos HP.out]; rfl
        have hz := HP1.out
        rw [← hk] at hz
        exact bodyPost_ret (v := .agg #[.int .i64 48, .slice none 0 0, .slice ao2 3 co2]) (by simp [results, Tryd.results28, go_sem, y0, y1, y2]) rfl (iobject_end hz HZ.out HB0.out)
    · have HM : Hid (∀ w, Calls Tryd.prog 43 #[.int .i64 p] w fun e w' => e = .returned (.bool false) ∧ w' = w) := Lib.hid (by have := mapped_any p; rw [show (decide (p = 2) || decide (p = 3)) = false by simp [not_or.1 hm]] at this; exact this)
      have HP := Lib.hid hm
      clear hm
      by_cases h4 : p = 4
      · subst h4
        have hk4 : elemP k = true := by
          have : chkB 4 ve r k d false true (elemP k) = 0 := hx
          unfold chkB at this
          cases h : elemP k with
          | true => rfl
          | false =>
            rw [h] at this
            simp only [if_true, true_and, true_or] at this
            (repeat' split at this) <;> first | contradiction | omega | simp_all
        have x3 : wc.cell? ⟨w.heap.size, 3, none⟩ = some (.int .i64 k) := by rw [cell_of_row _ _ _ _ _ _ HBC.out]; rfl
        have HGE := Lib.hid (fun w => gencode_any k w hk4)
        clear hk4
        go_upto_region 6 with (first
          | (go_at_call 43; refine (HM.out _).mono ?_; rintro e w' ⟨rfl, hw'⟩; rw [hw']; clear hw' w')
          | (go_at_call 47; refine (HGE.out _).mono ?_; rintro e w4 ⟨v4, rfl, h1, h2⟩; obtain ⟨a4, c4, rfl⟩ := h1.form2; have H1 := Lib.hid h1; have H2 := Lib.hid h2; clear h1 h2))
        have HZ4 := Lib.hid (HZA.out.later HZA.out.below.size H2.out)
        have HB4 := Lib.hid (H1.out.keep (S' := fun b => wc.heap.size ≤ b ∧ b < w4.heap.size) fun b hs _ => ⟨rfl, hs⟩)
        obtain ⟨ao, co, ho⟩ : ∃ A c, o = .slice A 2 c := HZA.out.own.form
        subst ho
        have HBX4 := Lib.hid ((H2.out.block w.heap.size (Array.getElem?_eq_some_iff.1 HBC.out).1).trans HBC.out)
        have x2 : ∀ W, Below w4.heap.size w4 W → W.cell? ⟨w.heap.size, 4, none⟩ = some (.int .i64 d) := fun W h => (h.cell (p := ⟨w.heap.size, 4, none⟩) (Array.getElem?_eq_some_iff.1 HBX4.out).1).trans (by rw [cell_of_row _ _ _ _ _ _ HBX4.out]; rfl)
        have z2 : ∀ W, Below w4.heap.size w4 W → W.cell? ⟨z, 2, none⟩ = some (.slice ao 2 co) := fun W h => (h.cell (p := ⟨z, 2, none⟩) HZ4.out.lt).trans (by rw [cell_of_row _ _ _ _ _ _ HZ4.out.box]; rfl)
        have X2 := Lib.hid x2; have Z2 := Lib.hid z2; have X0 := Lib.hid x0
        clear x2 z2 x0
        have HR := Lib.hid (number_any d)
        refine wp_region_rg 8 [some 37, some 38, some 39, some 40, some 41, some 42, some 43, some 44] [[], [0], [], [2], [], [4], [4, 5], [2, 3, 4, 5, 6]]
          (fun _ _ w1 => Below w4.heap.size w4 w1) (fun w1 w2 => Below w1.heap.size w1 w2)
          [fun v _ => v 0 = .pointer (some ⟨z, 2, none⟩),
           fun v _ => v 1 = .slice ao 2 co,
           fun v _ => v 2 = .slice a4 4 c4,
           fun v _ => v 3 = .agg #[.int .i64 4, .slice a4 4 c4, .slice none 0 0],
           fun v _ => v 4 = .pointer (some ⟨w.heap.size, 4, none⟩),
           fun v _ => v 5 = .int .i64 d,
           fun v w1 => ∃ a c, v 6 = .agg #[.int .i64 2, .slice a 1 c, .slice none 0 0] ∧ BsS w1 (New w4 w1) (.slice a 1 c) [ofI d],
           fun v w1 => ∃ a c g, v 7 = .slice (some ⟨g, 0, none⟩) 2 2 ∧ w4.heap.size ≤ g ∧ BsS w1 (fun b => New w4 w1 b) (.slice a 1 c) [ofI d] ∧ w1.heap[g]? = some (.cells #[.int .i64 4, .slice a4 4 c4, .slice none 0 0, .int .i64 2, .slice a 1 c, .slice none 0 0] 53)]
          (by kernel_rfl) (by kernel_rfl) (fun _ => (Below.refl _ _).drew) ?st ?steps ?tail
        case st =>
          exact .cons (fun _ _ _ _ _ _ h => h) (.cons (fun _ _ _ _ _ _ h => h) (.cons (fun _ _ _ _ _ _ h => h) (.cons (fun _ _ _ _ _ _ h => h) (.cons (fun _ _ _ _ _ _ h => h) (.cons (fun _ _ _ _ _ _ h => h)
            (.cons (fun _ _ _ _ _ hr ⟨a, c, e, h⟩ => ⟨a, c, e, BsS.keep h fun b hs hl => ⟨hr.block b hl, hs.1, Nat.lt_of_lt_of_le hs.2 hr.size⟩⟩)
            (.cons (fun _ _ _ _ _ hr ⟨a, c, g, e, h1, h, h2⟩ => ⟨a, c, g, e, h1, BsS.keep h fun b hs hl => ⟨hr.block b hl, hs.1, Nat.lt_of_lt_of_le hs.2 hr.size⟩, (hr.block g (Array.getElem?_eq_some_iff.1 h2).1).trans h2⟩) .nil)))))))
        case steps =>
          simp only [List.take_succ_cons, List.take_zero]
          refine .cons ?_ (.cons ?_ (.cons ?_ (.cons ?_ (.cons ?_ (.cons ?_ (.cons ?_ (.cons ?_ .nil)))))))
          all_goals (intro L v w1 hJ hL hA hF K hK; simp only [fillRG, Act.put, Nat.zero_add, Nat.reduceAdd, List.setIfInBounds_toArray, List.set_cons_zero, List.set_cons_succ] at hK ⊢)
          · go_simp
            exact hK _ _ hJ (Below.refl _ _) rfl
          · have e0 : v 0 = .pointer (some ⟨z, 2, none⟩) := hF 0 (hA 0 (by simp))
            have c0 := Z2.out _ hJ
            simp only [e0] at hK
            go_simp
            exact hK _ _ hJ (Below.refl _ _) rfl
          · go_simp
            exact hK _ _ hJ (Below.refl _ _) rfl
          · have e0 : v 2 = .slice a4 4 c4 := hF 2 (hA 2 (by simp))
            simp only [e0] at hK
            go_simp
            exact hK _ _ hJ (Below.refl _ _) rfl
          · go_simp
            exact hK _ _ hJ (Below.refl _ _) rfl
          · have e0 : v 4 = .pointer (some ⟨w.heap.size, 4, none⟩) := hF 4 (hA 4 (by simp))
            have c0 := X2.out _ hJ
            simp only [e0] at hK
            go_simp
            exact hK _ _ hJ (Below.refl _ _) rfl
          · have e1 : v 5 = .int .i64 d := hF 5 (hA 5 (by simp))
            simp only [e1] at hK
            go_simp
            refine (HR.out _).mono ?_
            rintro e w5 ⟨v5, rfl, h1, h2⟩
            obtain ⟨a5, c5, rfl⟩ := h1.form2
            exact hK _ _ (hJ.trans (h2.mono hJ.size)) h2 ⟨_, _, rfl, h1.keep fun b hs _ => ⟨rfl, Nat.le_trans hJ.size hs.1, hs.2⟩⟩
          · have e3 : v 3 = .agg #[.int .i64 4, .slice a4 4 c4, .slice none 0 0] := hF 3 (hA 3 (by simp))
            obtain ⟨a5, c5, e4, h4⟩ : ∃ a c, v 6 = .agg #[.int .i64 2, .slice a 1 c, .slice none 0 0] ∧ BsS w1 (New w4 w1) (.slice a 1 c) [ofI d] := hF 6 (hA 6 (by simp))
            have H4 := Lib.hid h4
            clear h4
            simp only [e3, e4] at hK
            go_simp
            exact hK _ _ (hJ.alloc hJ.size _) ((Below.refl _ _).alloc (Nat.le_refl _) _) ⟨_, _, _, rfl, hJ.size, H4.out.keep fun b hs hl => ⟨Below.heap_alloc _ _ _ hl, hs.1, by have := hs.2; simp; omega⟩, heap_alloc_new _ _⟩
        case tail =>
          intro v w1 hJ hF
          have e0 : v 0 = .pointer (some ⟨z, 2, none⟩) := hF 0 (by simp)
          have e1 : v 1 = .slice ao 2 co := hF 1 (by simp)
          obtain ⟨a5, c5, g, e5, hg, hbs, hgc⟩ : ∃ a c g, v 7 = .slice (some ⟨g, 0, none⟩) 2 2 ∧ w4.heap.size ≤ g ∧ BsS w1 (fun b => New w4 w1 b) (.slice a 1 c) [ofI d] ∧ w1.heap[g]? = some (.cells #[.int .i64 4, .slice a4 4 c4, .slice none 0 0, .int .i64 2, .slice a 1 c, .slice none 0 0] 53) := hF 7 (by simp)
          simp only [List.drop_succ_cons, List.drop_zero, fillRG, Act.put, Nat.zero_add, Nat.reduceAdd, List.setIfInBounds_toArray, List.set_cons_zero, List.set_cons_succ]
          have hza := HZ4.out.later HZ4.out.below.size hJ
          have hoff : ∀ b, wc.heap.size ≤ b → b < w1.heap.size → OffX w0.heap.size (· = z) w1 (.slice ao 2 co) b := fun b hb hl => ⟨⟨hl, fun e => by have := lt_of_own HZA.out.own e; omega, Nat.le_trans HZA.out.below.size hb⟩, fun e => by have := HZA.out.lt; omega⟩
          have hbs2 : BsS w1 (OffX w0.heap.size (· = z) w1 (.slice ao 2 co)) (.slice a5 1 c5) [ofI d] := hbs.keep fun b hs hl => ⟨rfl, hoff b (Nat.le_trans H2.out.size hs.1) hl⟩
          have hbs3 : BsS w1 (OffX w0.heap.size (· = z) w1 (.slice ao 2 co)) (.slice a4 4 c4) (fourB k) := HB4.out.keep fun b hs hl => ⟨hJ.block b hl, hoff b hs.1 (Nat.lt_of_lt_of_le hl hJ.size)⟩
          have HM3 : Hid (EachN w1 (OffX w0.heap.size (· = z) w1 (.slice ao 2 co)) (.cons 4 (fourB k) .nil (numN d .nil)) [.int .i64 4, .slice a4 4 c4, .slice none 0 0, .int .i64 2, .slice a5 1 c5, .slice none 0 0]) := Lib.hid ⟨_, _, _, rfl, by simp [I64in], hbs3, NsS.nilv _ _, _, _, _, rfl, by simp [I64in], hbs2, NsS.nilv _ _, rfl⟩
          have HGC := Lib.hid hgc; have HZ1 := Lib.hid hza; have HJ := Lib.hid hJ
          have hnz : ¬ w1.heap.size = z := fun e => by have := hza.lt; omega
          have hw01 : w0.heap.size ≤ w1.heap.size := Nat.le_trans HZ4.out.below.size hJ.size
          clear hbs hbs2 hbs3 hoff hgc hza hJ hF hg
          have HM1 : Hid (2 = (Ns.cons 4 (fourB k) .nil (numN d .nil)).len) := Lib.hid rfl
          have hml : (Ns.cons 6 (identB 4) .nil (numN ve .nil)).len + (Ns.cons 4 (fourB k) .nil (numN d .nil)).len ≤ 1000000000000 := by simp [Ns.len, numN]
          go_wp2_with (at_builtin; (with_reducible refine wpList_nodes rfl (.tmp 38) (.tmp 44) rfl w0.heap.size (· = z) (.slice ao 2 co) (.cons 6 (identB 4) .nil (numN ve .nil)) (.cons 4 (fourB k) .nil (numN d .nil)) (by simp [Act.eval, e1]) HZ1.out.own g 2 [.int .i64 4, .slice a4 4 c4, .slice none 0 0, .int .i64 2, .slice a5 1 c5, .slice none 0 0] #[.int .i64 4, .slice a4 4 c4, .slice none 0 0, .int .i64 2, .slice a5 1 c5, .slice none 0 0] 53 (0, 0) (by simp [Act.eval, e5]) HM1.out HGC.out rfl HM3.out hml hw01 hnz ?_); intro o' w' hG; obtain ⟨ao2, co2, rfl⟩ : ∃ A c, o' = .slice A 4 c := hG.1.form; have hzc := (hG.2.2.1.block z HZ1.out.lt (fun e => HZ1.out.ne e.symm)).trans HZ1.out.box; obtain ⟨q0, q1, q2, qf⟩ := node_three hzc; have f2 := qf 2; have hp1 := HZ1.out.push hG; have HP1 := Lib.hid hp1; obtain ⟨r0, r1, r2, rf⟩ := node_three ((hp1.below.block (w.heap.size + 1) (by have := HZ.out; omega)).trans HRES.out); have rf0 := rf 0; have rf1 := rf 1; have rf2 := rf 2; clear hG qf hzc hp1 rf)
          obtain ⟨y0, y1, y2, _⟩ := node_three (row_set (o := 2) (v := .slice ao2 4 co2) (row_set (o := 1) (v := .slice none 0 0) (row_set (o := 0) (v := .int .i64 48) ((HP1.out.below.block (w.heap.size + 1) (by have := HZ.out; omega)).trans HRES.out))))
          have hk : kidsI ⟨4, ve, r, k, d⟩ = (Ns.cons 6 (identB 4) .nil (numN ve .nil)).app (.cons 4 (fourB k) .nil (numN d .nil)) := rfl
          have hz := HP1.out
          rw [← hk] at hz
          exact bodyPost_ret (v := .agg #[.int .i64 48, .slice none 0 0, .slice ao2 4 co2]) (by simp [results, Tryd.results28, go_sem, y0, y1, y2]) rfl (iobject_end hz HZ.out HB0.out)
      · have h4' : ((p : Int) == 4) = false := by simp [h4]
        have H4 := Lib.hid h4
        obtain ⟨ao2, co2, ho⟩ : ∃ A c, o = .slice A 2 c := HZA.out.own.form
        subst ho
        obtain ⟨q0, q1, q2, _⟩ := node_three HZA.out.box
        obtain ⟨r0, r1, r2, rf⟩ := node_three ((HZA.out.below.block (w.heap.size + 1) (by have := HZ.out; omega)).trans HRES.out)
        have rf0 := rf 0; have rf1 := rf 1; have rf2 := rf 2
        clear rf h4
        go_wp2_with (go_at_call 43; refine (HM.out _).mono ?_; rintro e w' ⟨rfl, hw'⟩; rw [hw']; clear hw' w')
        obtain ⟨y0, y1, y2, _⟩ := node_three (row_set (o := 2) (v := .slice ao2 2 co2) (row_set (o := 1) (v := .slice none 0 0) (row_set (o := 0) (v := .int .i64 48) ((HZA.out.below.block (w.heap.size + 1) (by have := HZ.out; omega)).trans HRES.out))))
        have hk : kidsI ⟨p, ve, r, k, d⟩ = (Ns.cons 6 (identB p) .nil (numN ve .nil)) := by simp only [kidsI, moreN]; rw [if_neg HP.out, if_neg H4.out]
        have hz := HZA.out
        rw [← hk] at hz
        exact bodyPost_ret (v := .agg #[.int .i64 48, .slice none 0 0, .slice ao2 2 co2]) (by simp [results, Tryd.results28, go_sem, y0, y1, y2]) rfl (iobject_end hz HZ.out HB0.out)
end Go.Proofs.YtdpiehhblflacaaDoor
