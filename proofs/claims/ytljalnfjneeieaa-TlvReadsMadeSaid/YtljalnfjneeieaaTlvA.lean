/- Layer 2: the walk of object, over contracts of objects and kids. -/
import Derived.Test.YtljalnfjneeieaaTlv9
import Derived.Test.YtljalnfjneeieaaObjP
import Derived.StillTailTactics
namespace Go.Proofs.Ytljalnfjneeieaa
open Go.RowKit Go.Deep

/-- objects (opn false) and kids (opn true) do what listP says, at n. -/
def ListC (f : Nat) (n : Nat) (opn : Bool) : Prop := ∀ (B : List UInt8) (bb bo bc p a e d c : Nat) (st : Bool) (w : World),
  BsS w (· ≠ p) (.slice (some ⟨bb, bo, none⟩) B.length bc) B → e ≤ B.length → B.length ≤ 4096 → Rd w p (.slice (some ⟨bb, bo, none⟩) B.length bc) a st c → a ≤ e → e - a ≤ n → d ≤ 9 → c ≤ 256 →
  Calls Try.prog f #[.pointer (some ⟨p, 0, none⟩), .int .i64 e, .int .i64 d] w (ListOut (listP st n (rst B a e) d c opn) w p (.slice (some ⟨bb, bo, none⟩) B.length bc) a st)
def ObjC (n : Nat) : Prop := ∀ (B : List UInt8) (bb bo bc p a e d c : Nat) (st : Bool) (w : World),
  BsS w (· ≠ p) (.slice (some ⟨bb, bo, none⟩) B.length bc) B → e ≤ B.length → B.length ≤ 4096 → Rd w p (.slice (some ⟨bb, bo, none⟩) B.length bc) a st c → a ≤ e → e - a ≤ n + 1 → d ≤ 9 → c ≤ 256 →
  Calls Try.prog 55 #[.pointer (some ⟨p, 0, none⟩), .int .i64 e, .int .i64 d] w (ObjOut (objP st n (rst B a e) d c) w p (.slice (some ⟨bb, bo, none⟩) B.length bc) a st)
theorem tagV_in {t : Int} (h : tagV t = true) : I64in t := by have := tagV_range h; exact ⟨by omega, by omega⟩
/-- The world with the result's block written. -/
abbrev finW (w wi : World) (t : Int) (vv kv : Value) : World := ((wi.setCell ⟨w.heap.size, 0, none⟩ (.int .i64 t)).setCell ⟨w.heap.size, 1, none⟩ vv).setCell ⟨w.heap.size, 2, none⟩ kv
theorem OSt.cnt {w wi : World} {p : Nat} {bv : Value} {a : Nat} {st : Bool} {c : Nat} (h : OSt w wi p bv a st c) : OSt w (wi.setCell ⟨p, 3, none⟩ (.int .i64 ((c : Int) + 1))) p bv a st (c + 1) :=
  h.step (h.1.cnt (c + 1) _ (by omega)) (only_setCell (World.grownBy.refl wi _) (.inl rfl) _)
theorem OSt.put {w wi : World} {p : Nat} {bv : Value} {a : Nat} {st : Bool} {c : Nat} (h : OSt w wi p bv a st c) (n : Nat) (z : Int) (hz : z = n) : OSt w (wi.setCell ⟨p, 1, none⟩ (.int .i64 z)) p bv n st c :=
  h.step (h.1.at_ n z hz) (only_setCell (World.grownBy.refl wi _) (.inl rfl) _)
theorem OSt.draws {w wi : World} {p : Nat} {bv : Value} {a : Nat} {st : Bool} {c : Nat} (h : OSt w wi p bv a st c) (n : Nat) : OSt w (wi.drewN n) p bv a st c := ⟨h.1, only_drewN h.2.1 n, h.2.2.1, h.2.2.2⟩
theorem OSt.alloc {w wi : World} {p : Nat} {bv : Value} {a : Nat} {st : Bool} {c : Nat} (h : OSt w wi p bv a st c) (o : Obj) : OSt w (wi.alloc o) p bv a st c :=
  h.step ((Below.heap_alloc wi o p h.1.lt).trans h.1) (only_alloc (World.grownBy.refl wi _) o)
theorem OSt.other {w wi : World} {p : Nat} {bv : Value} {a : Nat} {st : Bool} {c : Nat} (h : OSt w wi p bv a st c) {X : Nat} (hX : w.heap.size < X) (i : Nat) (v : Value) : OSt w (wi.setCell ⟨X, i, none⟩ v) p bv a st c := by
  have hp := h.2.2.2
  exact ⟨(Below.heap_setCell _ _ _ _ (show p ≠ X by omega)).trans h.1, only_setCell h.2.1 (.inr (Nat.le_of_lt hX)) _, (Below.heap_setCell _ _ _ _ (show w.heap.size ≠ X by omega)).trans h.2.2.1, hp⟩
theorem OSt.lt {w wi : World} {p : Nat} {bv : Value} {a : Nat} {st : Bool} {c : Nat} (h : OSt w wi p bv a st c) : w.heap.size < wi.heap.size := (Array.getElem?_eq_some_iff.1 h.2.2.1).1
theorem OSt.finish {w wi : World} {p : Nat} {bv : Value} {a : Nat} {st : Bool} {c : Nat} (h : OSt w wi p bv a st c) (t : Int) (vv kv : Value) : Rd (finW w wi t vv kv) p bv a st c ∧ w.grownBy (finW w wi t vv kv) (some p) := by
  have hp := h.2.2.2
  have hne : p ≠ w.heap.size := by omega
  refine ⟨?_, only_setCell (only_setCell (only_setCell h.2.1 (.inr (Nat.le_refl _)) _) (.inr (Nat.le_refl _)) _) (.inr (Nat.le_refl _)) _⟩
  exact ((Below.heap_setCell _ _ _ _ hne).trans ((Below.heap_setCell _ _ _ _ hne).trans (Below.heap_setCell _ _ _ _ hne))).trans h.1
theorem OSt.finc {w wi : World} {p : Nat} {bv : Value} {a : Nat} {st : Bool} {c : Nat} (h : OSt w wi p bv a st c) (t : Int) (vv kv : Value) :
    (finW w wi t vv kv).cell? ⟨w.heap.size, 0, none⟩ = some (.int .i64 t) ∧ (finW w wi t vv kv).cell? ⟨w.heap.size, 1, none⟩ = some vv ∧ (finW w wi t vv kv).cell? ⟨w.heap.size, 2, none⟩ = some kv := by
  have h1 := set_block (i := 2) (set_block (i := 1) (set_block (i := 0) h.2.2.1 (.int .i64 t)) vv) kv
  refine ⟨?_, ?_, ?_⟩ <;> (rw [cell_of_row _ _ _ _ _ _ h1]; rfl)
theorem OSt.no {w wi : World} {p : Nat} {bv : Value} {a a0 : Nat} {st : Bool} {c : Nat} (h : OSt w wi p bv a st c) (t : Int) {r : Except Int Obj1} {er : Int} (hr : r = .error er) (he : er ≠ 0) :
    ObjOut r w p bv a0 st (.returned (.tuple #[.agg #[.int .i64 t, .slice none 0 0, .slice none 0 0], .int .i64 er])) (finW w wi t (.slice none 0 0) (.slice none 0 0)) := by
  subst hr
  exact ⟨he, ⟨t, rfl⟩, ⟨a, c, (h.finish t _ _).1⟩, (h.finish t _ _).2⟩
/-- What is read elsewhere stays. -/
theorem finW_keep {w wi : World} (t : Int) (vv kv : Value) {b : Nat} (hb : b ≠ w.heap.size) : (finW w wi t vv kv).heap[b]? = wi.heap[b]? :=
  (Below.heap_setCell _ _ _ _ hb).trans ((Below.heap_setCell _ _ _ _ hb).trans (Below.heap_setCell _ _ _ _ hb))
theorem OSt.yes {w wi : World} {p : Nat} {bv : Value} {a a0 : Nat} {st : Bool} {c : Nat} (h : OSt w wi p bv a st c) {r : Except Int Obj1} {o : Obj1} {vv kv : Value} (hr : r = .ok o)
    (hv : BsS wi (fun b => w.heap.size < b ∧ b < wi.heap.size) vv o.val) (hk : NsS wi (fun b => w.heap.size < b ∧ b < wi.heap.size) kv o.kids) (hi : I64in o.tag) (ha : a = a0 + o.used) (hc : c = o.count) :
    ObjOut r w p bv a0 st (.returned (.tuple #[.agg #[.int .i64 o.tag, vv, kv], .int .i64 0])) (finW w wi o.tag vv kv) := by
  subst hr ha hc
  have hs : (finW w wi o.tag vv kv).heap.size = wi.heap.size := by simp [World.setCell]
  exact ⟨vv, kv, rfl, hv.keep fun b hb _ => ⟨finW_keep _ _ _ (by omega), by omega, by omega⟩, hk.keep fun b hb _ => ⟨finW_keep _ _ _ (by omega), by omega, by omega⟩, hi, (h.finish _ _ _).1, (h.finish _ _ _).2⟩
theorem NsS.nil0 (w : World) (S : Nat → Prop) : NsS w S (.slice none 0 0) .nil := ⟨none, 0, rfl, Nat.le_refl _, by simp [maxLen], by simp [Ns.len], fun h => by simp [Ns.len] at h⟩
theorem BsS.nil0 (w : World) (S : Nat → Prop) : BsS w S (.slice none 0 0) [] := ⟨none, 0, rfl, by simp, by simp, by simp, by simp⟩
theorem BsS.capOf {w : World} {S : Nat → Prop} {A : Option Addr} {n c : Nat} {l : List UInt8} (h : BsS w S (.slice A n c) l) : n ≤ c ∧ c ≤ 9223372036854775807 := by
  obtain ⟨_, _, hv, h1, h2, _, _⟩ := h
  injection hv with _ e2 e3
  omega
theorem OSt.below {w wi wj : World} {p : Nat} {bv : Value} {a : Nat} {st : Bool} {c : Nat} (h : OSt w wi p bv a st c) (hb : Below wi.heap.size wi wj) : OSt w wj p bv a st c :=
  h.step ((hb.block p h.1.lt).trans h.1) (only_of_below hb _)
theorem cutMid {w : World} {S : Nat → Prop} {bb bo n bc : Nat} {B : List UInt8} (h : BsS w S (.slice (some ⟨bb, bo, none⟩) n bc) B) (g u : Nat) (hg : g + u ≤ B.length) :
    BsS w S (.slice (if bc = g then some ⟨bb, bo, none⟩ else some ⟨bb, bo + g, none⟩) (g + u - g) (bc - g)) (rst B g (g + u)) := by
  obtain ⟨a, c, hv, h1, h2, h3, h4⟩ := h
  injection hv with ha hn hc
  subst ha hc hn
  have hl : (rst B g (g + u)).length = u := by rw [rst_len hg]; omega
  have hu : g + u - g = u := by omega
  refine ⟨_, bc - g, by rw [hl, hu], by rw [hl]; omega, by omega, by rw [hl]; omega, fun hp => ?_⟩
  rw [hl] at hp
  obtain ⟨b', off', e, hb, hcell⟩ := h4 (by omega)
  injection e with e
  injection e with e1 e2
  subst e1 e2
  rw [if_neg (by omega)]
  refine ⟨bb, bo + g, rfl, hb, fun j hj => ?_⟩
  rw [hl] at hj
  rw [Nat.add_assoc, hcell (g + j) (by omega), gb_rst hg (by omega)]
theorem NsS.form2 {w : World} {S : Nat → Prop} {v : Value} {l : Ns} (h : NsS w S v l) : ∃ A c, v = .slice A l.len c := by
  obtain ⟨a, c, hv, _⟩ := h; exact ⟨a, c, hv⟩
/-- Three cells of a block that came through a call. -/
theorem three {w : World} {X : Nat} {a b c : Value} {t : TypeId} (h : w.heap[X]? = some (.cells #[a, b, c] t (0, 0))) : w.cell? ⟨X, 0, none⟩ = some a ∧ w.cell? ⟨X, 1, none⟩ = some b ∧ w.cell? ⟨X, 2, none⟩ = some c ∧ ∀ o, w.frozen? ⟨X, o, none⟩ = false := by
  refine ⟨?_, ?_, ?_, fun o => by simp [World.frozen?, h]⟩ <;> (rw [cell_of_row _ _ _ _ _ _ h]; rfl)
set_option maxRecDepth 100000 in
set_option maxHeartbeats 4000000 in
theorem object_tag (n : Nat) : ∀ (B : List UInt8) (bb bo bc p a e d c : Nat) (st : Bool) (w : World),
  BsS w (· ≠ p) (.slice (some ⟨bb, bo, none⟩) B.length bc) B → e ≤ B.length → B.length ≤ 4096 → Rd w p (.slice (some ⟨bb, bo, none⟩) B.length bc) a st c → a ≤ e → e - a ≤ n + 1 → d ≤ 9 → c ≤ 256 → ∀ er, tagP (rst B a e) = .error er →
  Calls Try.prog 55 #[.pointer (some ⟨p, 0, none⟩), .int .i64 e, .int .i64 d] w (ObjOut (objP st n (rst B a e) d c) w p (.slice (some ⟨bb, bo, none⟩) B.length bc) a st) := by
  intro B bb bo bc p a e d c st w hB he hB4 hr ha hn hd hc
  have S0 := OSt.start hr
  have HB := Lib.hid hB
  have T := tag_any B bb bo bc p a e c st (w.alloc (.cells #[.int .i64 0, .slice none 0 0, .slice none 0 0] 42)) (S0.bytes hB) he S0.1 ha
  have HS0 := Lib.hid S0
  clear S0 hB hr
  intro er ht
  rw [ht] at T
  have n0 : (er != 0) = true := by simp [tagP_err ht]
  have E : Hid (objP st n (rst B a e) d c = .error er) := by unfold objP objF; rw [ht]; rfl
  have HT := Lib.hid T; have N0 := Lib.hid (tagP_err ht)
  clear T ht
  go_enter Try.func55, Try.ntmps55
  go_wp2_with (go_at_call 44; refine HT.out.mono ?_; intro e1 w1 h1; obtain ⟨rfl, ⟨a1, hr1⟩, hg1⟩ := NumOut.err h1; have S1 := Lib.hid (HS0.out.step hr1 hg1); clear h1 hr1 hg1; obtain ⟨z0, z1, z2⟩ := S1.out.zc; have f0 := S1.out.zf 0; have f1 := S1.out.zf 1; have f2 := S1.out.zf 2)
  obtain ⟨y0, y1, y2⟩ := S1.out.finc 0 (.slice none 0 0) (.slice none 0 0)
  exact bodyPost_ret (v := .tuple #[.agg #[.int .i64 0, .slice none 0 0, .slice none 0 0], .int .i64 er]) (by simp [results, Try.results55, go_sem, y0, y1, y2]) rfl (S1.out.no 0 E.out N0.out)
end Go.Proofs.Ytljalnfjneeieaa
