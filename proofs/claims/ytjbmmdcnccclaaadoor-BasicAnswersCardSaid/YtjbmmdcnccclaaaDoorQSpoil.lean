/- made.Mod. -/
import Derived.Test.YtjbmmdcnccclaaaDoorTlv1
import Derived.Test.YtjbmmdcnccclaaaDoorQTlv7
import Derived.Test.YtjbmmdcnccclaaaDoorAppB
import Derived.Test.YtjbmmdcnccclaaaDoorObjP
import Derived.StillTailTactics
import Derived.Test.YtjbmmdcnccclaaaDoorNodes
import Derived.Laws.IdiomCopy
import Derived.Deep.RegionWith
import Derived.Deep.RegionLaw
namespace Go.Proofs.YtjbmmdcnccclaaaDoor
open Go.RowKit Go.Deep

theorem mod_any (n m : Int) (hn : I64in n) (hm : 0 < m) (hm2 : m ≤ 9223372036854775807) (w : World) : Calls Tryd.prog 25 #[.int .i64 n, .int .i64 m] w fun e w' => e = .returned (.int .i64 (n % m)) ∧ w' = w := by
  obtain ⟨h1, h2⟩ := hn
  have hz : m ≠ 0 := by omega
  have a1 : Int.tmod n m < m := Int.tmod_lt_of_pos n hm
  have a2 : -m < Int.tmod n m := by
    have := Int.lt_tmod_of_pos n hm
    omega
  obtain ⟨q, hq⟩ : ∃ q, Int.tmod n m = q := ⟨_, rfl⟩
  rw [hq] at a1 a2
  have e : n % m = if q < 0 then q + m else q := by
    have h := Int.tmod_add_mul_tdiv n m
    rw [hq] at h
    split
    · have := Int.emod_eq_of_lt (a := q + m) (b := m) (by omega) (by omega)
      rw [← this, ← h, Int.add_mul_emod_self_left, ← Int.add_emod_right]
    · have := Int.emod_eq_of_lt (a := q) (b := m) (by omega) (by omega)
      rw [← h, Int.add_mul_emod_self_left, this]
  have E := Lib.hid e
  by_cases hneg : q < 0
  · rw [if_pos hneg] at e
    have E := Lib.hid e
    clear e
    go_enter Tryd.func25, Tryd.ntmps25
    go_wp2_with fail
    go_ret
    rw [E.out]
    exact ⟨rfl, rfl⟩
  · rw [if_neg hneg] at e
    have E := Lib.hid e
    clear e
    go_enter Tryd.func25, Tryd.ntmps25
    go_wp2_with fail
    go_ret
    rw [E.out]
    exact ⟨rfl, rfl⟩
end Go.Proofs.YtjbmmdcnccclaaaDoor
/- made.Dice: what it is that a pointer points at dice, and Next, One. -/
namespace Go.Proofs.YtjbmmdcnccclaaaDoor
open Go.RowKit Go.Deep

/-- A slice of n numbers. -/
def IntsS (w : World) (S : Nat → Prop) (v : Value) (n : Nat) : Prop :=
  ∃ a c, v = .slice a n c ∧ n ≤ c ∧ c ≤ 9223372036854775807 ∧ n ≤ 1000000000000000000 ∧
    (0 < n → ∃ b off, a = some ⟨b, off, none⟩ ∧ S b ∧ b < w.heap.size ∧ ∀ j, j < n → ∃ z, I64in z ∧ w.cell? ⟨b, off + j, none⟩ = some (.int .i64 z))
theorem IntsS.keep {w w' : World} {S S' : Nat → Prop} {v : Value} {n : Nat} (h : IntsS w S v n) (hk : ∀ b, S b → b < w.heap.size → w'.heap[b]? = w.heap[b]? ∧ S' b) : IntsS w' S' v n := by
  obtain ⟨a, c, e, h1, h2, h3, h4⟩ := h
  refine ⟨a, c, e, h1, h2, h3, fun h0 => ?_⟩
  obtain ⟨b, off, ea, hb, hl, hr⟩ := h4 h0
  refine ⟨b, off, ea, (hk b hb hl).2, lt_of_same (hk b hb hl).1 hl, fun j hj => ?_⟩
  obtain ⟨z, hz, hc⟩ := hr j hj
  exact ⟨z, hz, (by simp [World.cell?, (hk b hb hl).1] : w'.cell? ⟨b, off + j, none⟩ = w.cell? ⟨b, off + j, none⟩).trans hc⟩
theorem IntsS.form {w : World} {S : Nat → Prop} {v : Value} {n : Nat} (h : IntsS w S v n) : ∃ a c, v = .slice a n c := by
  obtain ⟨a, c, e, _⟩ := h; exact ⟨a, c, e⟩
/-- Dice of n numbers in block p, all below block B. -/
def Die (B : Nat) (w : World) (p n : Nat) : Prop :=
  ∃ v at_, at_ ≤ n ∧ w.heap[p]? = some (.cells #[v, .int .i64 (at_ : Nat)] 55 (0, 0)) ∧ IntsS w (fun b => b ≠ p ∧ b < B) v n ∧ p < B ∧ B ≤ w.heap.size
theorem Die.lt {B : Nat} {w : World} {p n : Nat} (h : Die B w p n) : p < B := by obtain ⟨_, _, _, _, _, h, _⟩ := h; exact h
theorem Die.le {B : Nat} {w : World} {p n : Nat} (h : Die B w p n) : B ≤ w.heap.size := by obtain ⟨_, _, _, _, _, _, h⟩ := h; exact h
theorem Die.keep {B : Nat} {w w' : World} {p n : Nat} (h : Die B w p n) (hs : w.heap.size ≤ w'.heap.size) (hk : ∀ b, b < B → w'.heap[b]? = w.heap[b]?) : Die B w' p n := by
  obtain ⟨v, a, h1, h2, h3, h4, h5⟩ := h
  exact ⟨v, a, h1, (hk p h4).trans h2, h3.keep fun b hs _ => ⟨hk b hs.2, hs⟩, h4, Nat.le_trans h5 hs⟩
theorem Die.below {B : Nat} {w w' : World} {p n : Nat} (h : Die B w p n) (hb : Below B w w') : Die B w' p n := h.keep hb.size hb.block
theorem Die.alloc {B : Nat} {w : World} {p n : Nat} (h : Die B w p n) (o : Obj) : Die B (w.alloc o) p n := h.keep (by simp) fun b hl => Below.heap_alloc _ _ _ (Nat.lt_of_lt_of_le hl h.le)
theorem two {w : World} {X : Nat} {a b : Value} {t : TypeId} (h : w.heap[X]? = some (.cells #[a, b] t (0, 0))) : w.cell? ⟨X, 0, none⟩ = some a ∧ w.cell? ⟨X, 1, none⟩ = some b ∧ ∀ o, w.frozen? ⟨X, o, none⟩ = false := by
  refine ⟨?_, ?_, fun o => by simp [World.frozen?, h]⟩ <;> (rw [cell_of_row _ _ _ _ _ _ h]; rfl)
theorem two_set1 {w : World} {p : Nat} {a b u : Value} {t : TypeId} (h : w.heap[p]? = some (.cells #[a, b] t (0, 0))) : (w.setCell ⟨p, 1, none⟩ u).heap[p]? = some (.cells #[a, u] t (0, 0)) := by
  show (w.heap.modify p _)[p]? = _
  rw [Array.getElem?_modify, if_pos rfl, h]
  rfl
/-- What a call leaves of the dice. -/
def DiePost (B : Nat) (w : World) (p n : Nat) (w' : World) : Prop := Die B w' p n ∧ w.grownBy w' (some p)
theorem DiePost.trans {B : Nat} {w w1 w2 : World} {p n : Nat} (h1 : DiePost B w p n w1) (h2 : DiePost B w1 p n w2) : DiePost B w p n w2 := ⟨h2.1, only_trans h1.2 h2.2⟩
set_option maxRecDepth 100000 in
set_option maxHeartbeats 1000000 in
theorem next_any (B p n : Nat) (m : Int) (w : World) (h : Die B w p n) (hm : 0 < m) (hm2 : m ≤ 1000000000000) :
    Calls Tryd.prog 16 #[.pointer (some ⟨p, 0, none⟩), .int .i64 m] w fun e w' => ∃ z : Nat, e = .returned (.int .i64 z) ∧ (z : Int) < m ∧ DiePost B w p n w' := by
  have hD := Lib.hid h
  obtain ⟨v, k, hk, hp, ⟨a, c, rfl, hnc, hc9, hn9, hcells⟩, hpB, hBs⟩ := h
  obtain ⟨c0, c1, cf⟩ := two hp
  have f1 := cf 1
  have HP := Lib.hid hp
  clear hp cf
  by_cases hkn : k = n
  · subst hkn
    clear hcells
    go_enter Tryd.func16, Tryd.ntmps16
    go_wp2_with fail
    go_quiet (fail)
    go_wp2_with fail
    go_ret
    exact ⟨0, rfl, hm, hD.out.keep (Nat.le_refl _) fun b hl => rfl, only_drewN (World.grownBy.refl _ _) _⟩
  · have hkl : k < n := by omega
    obtain ⟨b, off, rfl, hbp, hbl, hz⟩ := hcells (by omega)
    obtain ⟨z, hz1, hz2⟩ := hz k hkl
    have Hz := Lib.hid hz
    have hkk : (k : Int) < n := by omega
    have hpl : p < w.heap.size := Nat.lt_of_lt_of_le hpB hBs
    have M := Lib.hid (fun w => mod_any z m hz1 hm (by omega) w)
    have hz0 : 0 ≤ z % m := Int.emod_nonneg _ (by omega)
    have hz3 : z % m < m := Int.emod_lt_of_pos _ hm
    obtain ⟨r, hr⟩ : ∃ r : Nat, Hid (z % m = r) := ⟨(z % m).toNat, by show _ = _; omega⟩
    rw [hr.out] at M hz3
    clear hkn hcells hz hz0 hz1
    go_enter Tryd.func16, Tryd.ntmps16
    go_wp2_with fail
    go_quiet (fail)
    go_wp2_with fail
    go_quiet ((go_at_call 25; exact Calls.quiet_of_same (M.out _)))
    go_wp2_with fail
    go_ret
    obtain ⟨v', k', hk', hp', hI, _, _⟩ := hD.out
    have e := HP.out.symm.trans hp'
    have hI2 : IntsS w (fun b => b ≠ p ∧ b < B) (.slice (some ⟨b, off, none⟩) n c) n := by
      injection e with e; injection e with e1 _ _; injection e1 with e1; injection e1 with e1 _; rw [e1]; exact hI
    exact ⟨r, rfl, hz3, ⟨_, k + 1, by omega, two_set1 HP.out, hI2.keep fun b' hs hb => ⟨Below.heap_setCell _ _ _ _ hs.1, hs⟩, hpB, by simpa [World.setCell] using hBs⟩, only_drewN (only_setCell (only_drewN (World.grownBy.refl _ _) _) (.inl rfl) _) _⟩
theorem light_any (S : Nat → Prop) (v : Value) (n : Nat) (w : World) (h : IntsS w S v n) : Calls Tryd.prog 13 #[v] w fun e w' => e = .returned (.bool (decide ((n : Int) ≤ 400))) ∧ w' = w := by
  obtain ⟨a, c, rfl⟩ := h.form
  clear h
  go_enter Tryd.func13, Tryd.ntmps13
  go_wp2_with fail
  go_ret
  exact ⟨rfl, rfl⟩
theorem roll_any (v : Value) (n : Nat) (w : World) (h : IntsS w (· < w.heap.size) v n) : Calls Tryd.prog 14 #[v] w fun e w' => e = .returned (.pointer (some ⟨w.heap.size, 0, none⟩)) ∧ Die (w.heap.size + 1) w' w.heap.size n ∧ Below w.heap.size w w' := by
  obtain ⟨a, c, rfl⟩ := h.form
  have H := Lib.hid h
  clear h
  go_enter Tryd.func14, Tryd.ntmps14
  go_wp2_with fail
  go_ret
  exact ⟨rfl, ⟨_, 0, by omega, heap_alloc_new _ _, H.out.keep fun b hs hb => ⟨Below.heap_alloc _ _ _ hb, by omega, by omega⟩, Nat.lt_succ_self _, by simp⟩, (Below.refl _ _).alloc (Nat.le_refl _) _⟩
end Go.Proofs.YtjbmmdcnccclaaaDoor
/- made.Dice: Tag and Bytes. -/
namespace Go.Proofs.YtjbmmdcnccclaaaDoor
open Go.RowKit Go.Deep

theorem tag_long {a b : Nat} (ha : (a : Int) < 4) (hb : (b : Int) < 127) : (tagV (256 * (31 + 64 * (a : Int)) + 1 + b) = true ∧ tagC (256 * (31 + 64 * (a : Int)) + 1 + b) = false) ∧ (tagV (256 * (31 + 64 * (a : Int)) + 1 + b + 8192) = true ∧ tagC (256 * (31 + 64 * (a : Int)) + 1 + b + 8192) = true) := by
  have h : ∀ a : Fin 4, ∀ b : Fin 127, (tagV (256 * (31 + 64 * (a.1 : Int)) + 1 + b.1) = true ∧ tagC (256 * (31 + 64 * (a.1 : Int)) + 1 + b.1) = false) ∧ (tagV (256 * (31 + 64 * (a.1 : Int)) + 1 + b.1 + 8192) = true ∧ tagC (256 * (31 + 64 * (a.1 : Int)) + 1 + b.1 + 8192) = true) := by decide +kernel
  exact h ⟨a, by omega⟩ ⟨b, by omega⟩
theorem tag_short {a b : Nat} (ha : (a : Int) < 30) (hb : (b : Int) < 4) : (tagV (1 + (a : Int) + 64 * b) = true ∧ tagC (1 + (a : Int) + 64 * b) = false) ∧ (tagV (1 + (a : Int) + 64 * b + 32) = true ∧ tagC (1 + (a : Int) + 64 * b + 32) = true) := by
  have h : ∀ a : Fin 30, ∀ b : Fin 4, (tagV (1 + (a.1 : Int) + 64 * b.1) = true ∧ tagC (1 + (a.1 : Int) + 64 * b.1) = false) ∧ (tagV (1 + (a.1 : Int) + 64 * b.1 + 32) = true ∧ tagC (1 + (a.1 : Int) + 64 * b.1 + 32) = true) := by decide +kernel
  exact h ⟨a, by omega⟩ ⟨b, by omega⟩
theorem val_byte {z : Int} (h0 : 0 ≤ z) (h1 : z ≤ 255) : Value.int .u8 z = U8 (ofI z) := by rw [← val_mod, Int.emod_eq_of_lt h0 (by omega)]
theorem wpList_push1s {ops : Array Oper} {rest : List Oper} {o : Oper} {a : Act} {w : World} {Q : Exit → Act → World → Prop} (hgd : o.guard = none) (s x : Operand)
    (ho : o.op = .call { callee := .builtin .append, args := #[s, x], argTypes := #[23, 23] })
    (base : Nat) (v : Value) (l : List UInt8) (hs : a.eval s = v) (hown : OwnB w base v l) (z : Int) (h0 : 0 ≤ z) (h1 : z ≤ 255) (t : TypeId) (g : Nat) (hx : a.eval x = .slice (some ⟨g, 0, none⟩) 1 1) (hg : g = w.heap.size)
    (hb : l.length + 1 ≤ 140737488355328) (hbase : base ≤ w.heap.size)
    (h : ∀ v' w', Grew w w' base v v' (l ++ [ofI z]) → wpList Tryd.prog ops Q rest (a.put o.dst v') w') : wpList Tryd.prog ops Q (o :: rest) a (w.alloc (.cells #[.int .u8 z] t)) := by
  rw [val_byte h0 h1]
  exact wpList_push1 hgd s x ho base v l hs hown (ofI z) t g hx hg hb hbase h
/-- Inside a call: a row of bytes of its own, and the dice, older than it. -/
def DRow (B : Nat) (w wi : World) (p n : Nat) (o : Value) (l : List UInt8) : Prop := OwnB wi w.heap.size o l ∧ DiePost B w p n wi ∧ B ≤ w.heap.size
theorem DRow.start {B : Nat} {w : World} {p n : Nat} (h : Die B w p n) : DRow B w w p n (.slice none 0 0) [] := ⟨OwnB.nil _ _, ⟨h, World.grownBy.refl _ _⟩, h.le⟩
theorem ownsRow_only {wi wj : World} {base e size n p : Nat} {o : Value} {xs : List Value} (h : wi.ownsRow base e size o n xs) (hp : p < base) (hg : wi.grownBy wj (some p)) : wj.ownsRow base e size o n xs :=
  World.ownsRow.kept h hg (by
    rcases e : o.ownBlock with _ | b
    · exact .inl rfl
    · refine .inr fun e2 => ?_
      have := (h.lt b e).1
      injection e2 with e2
      omega)
theorem DRow.call {B : Nat} {w wi wj : World} {p n : Nat} {o : Value} {l : List UInt8} (h : DRow B w wi p n o l) (hd : DiePost B wi p n wj) : DRow B w wj p n o l :=
  ⟨ownsRow_only h.1 (Nat.lt_of_lt_of_le hd.1.lt h.2.2) hd.2, h.2.1.trans hd, h.2.2⟩
/-- What turns nothing below w but the dice. -/
theorem only_row {w wi wj : World} {p : Nat} {row : Option Nat} (h : w.grownBy wi (some p)) (hg : wi.grownBy wj row) (hr : ∀ b, row = some b → w.heap.size ≤ b) : w.grownBy wj (some p) :=
  ⟨hg.os.trans h.os, hg.tape.trans h.tape, hg.output.trans h.output, Nat.le_trans h.size hg.size, fun k hk hne => (hg.block k (Nat.lt_of_lt_of_le hk h.size) (fun e => by have := hr k e.symm; omega)).trans (h.block k hk hne)⟩
theorem DRow.grew {B : Nat} {w wi wj : World} {p n : Nat} {o o' : Value} {l l' : List UInt8} (h : DRow B w wi p n o l) (g : Grew wi wj w.heap.size o o' l') : DRow B w wj p n o' l' := by
  obtain ⟨h1, ⟨h2, h3⟩, h4⟩ := h
  obtain ⟨g1, g2, g3, g4⟩ := g
  exact ⟨g1, ⟨h2.below (g2.mono h4), only_row h3 g3 fun b e => (h1.lt b e).1⟩, h4⟩
theorem DRow.alloc {B : Nat} {w wi : World} {p n : Nat} {o : Value} {l : List UInt8} (h : DRow B w wi p n o l) (x : Obj) : DRow B w (wi.alloc x) p n o l :=
  ⟨h.1.alloc x, ⟨h.2.1.1.alloc x, only_alloc h.2.1.2 x⟩, h.2.2⟩
theorem DRow.own {B : Nat} {w wi : World} {p n : Nat} {o : Value} {l : List UInt8} (h : DRow B w wi p n o l) : OwnB wi w.heap.size o l := h.1
theorem DRow.die {B : Nat} {w wi : World} {p n : Nat} {o : Value} {l : List UInt8} (h : DRow B w wi p n o l) : Die B wi p n := h.2.1.1
theorem DRow.size {B : Nat} {w wi : World} {p n : Nat} {o : Value} {l : List UInt8} (h : DRow B w wi p n o l) : w.heap.size ≤ wi.heap.size := h.2.1.2.size
set_option maxRecDepth 100000 in
set_option maxHeartbeats 1000000 in
theorem dbytes_any (B p n : Nat) (m : Int) (w : World) (h : Die B w p n) (hm0 : 0 ≤ m) (hm : m ≤ 100000) :
    Calls Tryd.prog 18 #[.pointer (some ⟨p, 0, none⟩), .int .i64 m] w fun e w' => ∃ v l, e = .returned v ∧ BsS w' (New w w') v l ∧ (l.length : Int) ≤ m ∧ DiePost B w p n w' := by
  have H0 := Lib.hid (DRow.start h)
  clear h
  go_enter Tryd.func18, Tryd.ntmps18
  go_wp2_with (go_at_call 16; refine (next_any B p n _ _ H0.out.die (by omega) (by omega)).mono ?_; rintro e w1 ⟨z0, rfl, hz0, hd⟩; have H1 := Lib.hid (H0.out.call hd); clear hd)
  go_loopg [5, 6] z0 (fun q o i wr => ∃ l : List UInt8, l.length + q = z0 ∧ i = .int .i64 q ∧ DRow B w wr p n o l)
  case atStart => exact ⟨[], by simp, rfl, H1.out⟩
  case round =>
    obtain ⟨l, hl, rfl, hR⟩ := hrel
    obtain ⟨oa, oc, rfl⟩ := hR.own.form
    have HR := Lib.hid hR
    clear hR
    by_cases hq : gk = 0
    · subst hq
      go_wp2_with fail
      go_ret
      exact ⟨_, l, rfl, HR.out.own.out (by omega) w (Nat.le_refl _), by omega, HR.out.2.1⟩
    · have hq1 : 0 < gk := by omega
      clear hq
      go_wp2_with (first
        | (at_builtin; (with_reducible refine wpList_push1s rfl (.tmp 15) (.tmp 19) rfl w.heap.size (.slice oa l.length oc) l rfl HR2.out.own (z : Int) (by omega) (by omega) _ w2.heap.size rfl rfl (by omega) HR2.out.size ?_); intro v3 w3 hgr; have H3 := Lib.hid (HR2.out.grew hgr); clear hgr)
        | (go_at_call 16; refine (next_any B p n _ _ HR.out.die (by decide) (by decide)).mono ?_; rintro e w2 ⟨z, rfl, hz, hd⟩; have HR2 := Lib.hid (HR.out.call hd); clear hd))
      go_roundg (gk - 1)
      case measure => omega
      case rel => exact ⟨_, by simp; omega, by go_num, H3.out⟩
end Go.Proofs.YtjbmmdcnccclaaaDoor
/- Layer 2: the walk of the reader's length. -/
namespace Go.Proofs.YtjbmmdcnccclaaaDoor
open Go.RowKit Go.Deep

theorem beV_nn (l : List UInt8) (k : Nat) : 0 ≤ beV l k := by
  induction k with
  | zero => exact Int.le_refl _
  | succ k ih => rw [beV]; have := bv_nn (gb l (k + 1)); omega
theorem beV_lt (l : List UInt8) (k : Nat) : beV l k < 256 ^ k := by
  induction k with
  | zero => show (0 : Int) < 256 ^ 0; decide
  | succ k ih => rw [beV, Int.pow_succ]; have := bv_lt (gb l (k + 1)); omega
theorem sizeP_at (l : List UInt8) (f : UInt8) (x : Nat) (o st : Bool) (h : ¬ l.length = 0) (h0 : gb l 0 = f) (hx : x = f.toNat) : sizeP l o st = if (x : Int) < 128 then .ok (x, 1) else if 132 < (x : Int) then .error 5 else if (x : Int) = 128 then (if o = true then .ok (-1, 1) else .error 5)
    else if l.length < 1 + (x - 128) then .error 6 else if st = true ∧ (beV l (x - 128) < 128 ∨ (1 < x - 128 ∧ gb l 1 = 0)) then .error 5 else .ok (beV l (x - 128), 1 + (x - 128)) := by
  subst hx h0
  unfold sizeP
  rw [if_neg h]
  rfl
theorem top_byte2 (l : List UInt8) (z : Nat) (h : beV l 2 = z) : (z : Int) / 256 = 0 ↔ gb l 1 = 0 := by
  have b1 := bv_lt (gb l 1); have b2 := bv_lt (gb l 2); have b3 := bv_lt (gb l 3); have b4 := bv_lt (gb l 4)
  have n1 := bv_nn (gb l 1); have n2 := bv_nn (gb l 2); have n3 := bv_nn (gb l 3); have n4 := bv_nn (gb l 4)
  have e : (z : Int) / 256 = bv (gb l 1) := by
    rw [← h]; simp only [beV]; simp only [Nat.reduceAdd]; omega
  rw [e]
  exact ⟨fun h => bv_inj h, fun h => by rw [h]; rfl⟩
theorem top_byte3 (l : List UInt8) (z : Nat) (h : beV l 3 = z) : (z : Int) / 65536 = 0 ↔ gb l 1 = 0 := by
  have b1 := bv_lt (gb l 1); have b2 := bv_lt (gb l 2); have b3 := bv_lt (gb l 3); have b4 := bv_lt (gb l 4)
  have n1 := bv_nn (gb l 1); have n2 := bv_nn (gb l 2); have n3 := bv_nn (gb l 3); have n4 := bv_nn (gb l 4)
  have e : (z : Int) / 65536 = bv (gb l 1) := by
    rw [← h]; simp only [beV]; simp only [Nat.reduceAdd]; omega
  rw [e]
  exact ⟨fun h => bv_inj h, fun h => by rw [h]; rfl⟩
theorem top_byte4 (l : List UInt8) (z : Nat) (h : beV l 4 = z) : (z : Int) / 16777216 = 0 ↔ gb l 1 = 0 := by
  have b1 := bv_lt (gb l 1); have b2 := bv_lt (gb l 2); have b3 := bv_lt (gb l 3); have b4 := bv_lt (gb l 4)
  have n1 := bv_nn (gb l 1); have n2 := bv_nn (gb l 2); have n3 := bv_nn (gb l 3); have n4 := bv_nn (gb l 4)
  have e : (z : Int) / 16777216 = bv (gb l 1) := by
    rw [← h]; simp only [beV]; simp only [Nat.reduceAdd]; omega
  rw [e]
  exact ⟨fun h => bv_inj h, fun h => by rw [h]; rfl⟩
theorem BsS.ne {w : World} {S : Nat → Prop} {bb bo n c : Nat} {l : List UInt8} (h : BsS w S (.slice (some ⟨bb, bo, none⟩) n c) l) (hl : 0 < l.length) : S bb := by
  obtain ⟨_, _, hv, _, _, _, h4⟩ := h
  obtain ⟨_, _, e1, e2, _⟩ := h4 hl
  injection hv with e3 _ _
  rw [← e3] at e1
  injection e1 with e1
  injection e1 with e1 _ _
  rw [e1]; exact e2
end Go.Proofs.YtjbmmdcnccclaaaDoor
/- Layer 2: words for the reader's object, objects and kids. -/
namespace Go.Proofs.YtjbmmdcnccclaaaDoor
open Go.RowKit Go.Deep

theorem tagP_err {l : List UInt8} {er : Int} (h : tagP l = .error er) : er ≠ 0 := by
  unfold tagP at h
  split at h
  · injection h with h; omega
  · split at h
    · split at h
      · injection h with h; omega
      · split at h
        · cases h
        · injection h with h; omega
    · split at h
      · cases h
      · injection h with h; omega
theorem tagP_ok {l : List UInt8} {t : Int} {k : Nat} (h : tagP l = .ok (t, k)) : tagV t = true ∧ 1 ≤ k ∧ k ≤ l.length := by
  unfold tagP at h
  split at h
  · cases h
  · split at h
    · split at h
      · cases h
      · split at h
        · injection h with h; injection h with h1 h2; subst h1 h2; exact ⟨‹_›, by omega, by omega⟩
        · cases h
    · split at h
      · injection h with h; injection h with h1 h2; subst h1 h2; exact ⟨‹_›, by omega, by omega⟩
      · cases h
theorem sizeP_err {l : List UInt8} {o st : Bool} {er : Int} (h : sizeP l o st = .error er) : er ≠ 0 := by
  unfold sizeP at h
  split at h
  · injection h with h; omega
  · split at h
    · cases h
    · split at h
      · injection h with h; omega
      · split at h
        · split at h
          · cases h
          · injection h with h; omega
        · split at h
          · injection h with h; omega
          · split at h
            · injection h with h; omega
            · cases h
theorem sizeP_ok {l : List UInt8} {o st : Bool} {n : Int} {j : Nat} (h : sizeP l o st = .ok (n, j)) : 1 ≤ j ∧ j ≤ l.length ∧ n ≤ 4294967296 ∧ (0 ≤ n ∨ (n = -1 ∧ o = true)) := by
  unfold sizeP at h
  split at h
  · cases h
  · split at h
    · injection h with h; injection h with h1 h2; subst h1 h2
      have := bv_nn (gb l 0); have := bv_lt (gb l 0)
      exact ⟨by omega, by omega, by omega, .inl (by omega)⟩
    · split at h
      · cases h
      · split at h
        · split at h
          · injection h with h; injection h with h1 h2; subst h1 h2; exact ⟨by omega, by omega, by omega, .inr ⟨rfl, ‹_›⟩⟩
          · cases h
        · split at h
          · cases h
          · split at h
            · cases h
            · injection h with h; injection h with h1 h2; subst h1 h2
              have h5 : (gb l 0).toNat - 128 ≤ 4 := by
                have h6 : ¬ 132 < bv (gb l 0) := by assumption
                unfold bv at h6; omega
              have h7 := beV_lt l ((gb l 0).toNat - 128)
              have h8 : (256 : Int) ^ ((gb l 0).toNat - 128) ≤ 256 ^ 4 := by
                obtain h | h | h | h | h : (gb l 0).toNat - 128 = 0 ∨ (gb l 0).toNat - 128 = 1 ∨ (gb l 0).toNat - 128 = 2 ∨ (gb l 0).toNat - 128 = 3 ∨ (gb l 0).toNat - 128 = 4 := by omega
                all_goals rw [h]; decide
              exact ⟨by omega, by omega, by omega, .inl (beV_nn _ _)⟩
/-- What a reader of lists keeps to. -/
def Sound (L : List UInt8 → Nat → Nat → Bool → Except Int Lst) : Prop := ∀ l d c o, c ≤ 256 →
  (∀ r, L l d c o = .ok r → r.used ≤ l.length ∧ r.count ≤ 256 ∧ (o = false → r.used = l.length)) ∧ (∀ er, L l d c o = .error er → er ≠ 0)
theorem objF_sound {st : Bool} {L : List UInt8 → Nat → Nat → Bool → Except Int Lst} (hL : Sound L) {l : List UInt8} {d c : Nat} :
    (∀ o, objF st L l d c = .ok o → 2 ≤ o.used ∧ o.used ≤ l.length ∧ o.count ≤ 256 ∧ tagV o.tag = true) ∧ (∀ er, objF st L l d c = .error er → er ≠ 0) := by
  unfold objF
  cases ht : tagP l with
  | error e => exact ⟨fun o h => by simp at h, fun er h => by simp at h; subst h; exact tagP_err ht⟩
  | ok x =>
    obtain ⟨t, k⟩ := x
    obtain ⟨tv, k1, k2⟩ := tagP_ok ht
    simp only
    cases hs : sizeP (l.drop k) (tagC t && !st) st with
    | error e => exact ⟨fun o h => by simp at h, fun er h => by simp at h; subst h; exact sizeP_err hs⟩
    | ok y =>
      obtain ⟨n, j⟩ := y
      obtain ⟨j1, j2, n1, n2⟩ := sizeP_ok hs
      simp only
      rw [List.length_drop] at j2
      by_cases h1 : 8 < d
      · simp only [if_pos h1]
        exact ⟨fun o h => by simp at h, fun er h => by simp at h; omega⟩
      · simp only [if_neg h1]
        by_cases h2 : 256 < c + 1
        · simp only [if_pos h2]
          exact ⟨fun o h => by simp at h, fun er h => by simp at h; omega⟩
        · simp only [if_neg h2]
          by_cases h3 : ((l.drop (k + j)).length : Int) < n
          · simp only [if_pos h3]
            exact ⟨fun o h => by simp at h, fun er h => by simp at h; omega⟩
          · simp only [if_neg h3]
            rw [List.length_drop] at h3
            by_cases h4 : n < 0
            · simp only [if_pos h4]
              obtain ⟨g1, g2⟩ := hL (l.drop (k + j)) (d + 1) (c + 1) true (by omega)
              cases hr : L (l.drop (k + j)) (d + 1) (c + 1) true with
              | error e => exact ⟨fun o h => by simp at h, fun er h => by simp at h; subst h; exact g2 _ hr⟩
              | ok r =>
                obtain ⟨u1, u2, _⟩ := g1 r hr
                rw [List.length_drop] at u1
                exact ⟨fun o h => by simp at h; subst h; exact ⟨by simp only; omega, by simp only; omega, u2, tv⟩, fun er h => by simp at h⟩
            · simp only [if_neg h4]
              by_cases h5 : tagC t = true
              · simp only [if_pos h5]
                obtain ⟨g1, g2⟩ := hL ((l.drop (k + j)).take n.toNat) (d + 1) (c + 1) false (by omega)
                cases hr : L ((l.drop (k + j)).take n.toNat) (d + 1) (c + 1) false with
                | error e => exact ⟨fun o h => by simp at h, fun er h => by simp at h; subst h; exact g2 _ hr⟩
                | ok r =>
                  obtain ⟨u1, u2, _⟩ := g1 r hr
                  exact ⟨fun o h => by simp at h; subst h; exact ⟨by simp only; omega, by simp only; omega, u2, tv⟩, fun er h => by simp at h⟩
              · simp only [if_neg h5]
                exact ⟨fun o h => by simp at h; subst h; exact ⟨by simp only; omega, by simp only; omega, by simp only; omega, tv⟩, fun er h => by simp at h⟩
theorem headP_ok {l : List UInt8} {o : Bool} {u : Nat} (h : headP l o = some (.ok u)) : u ≤ l.length ∧ (o = false → u = l.length) := by
  unfold headP at h
  cases o with
  | true =>
    simp only [if_pos] at h
    split at h
    · cases h
    · split at h
      · injection h with h; injection h with h; subst h
        rename_i h1 h2
        refine ⟨?_, fun h => by cases h⟩
        rcases Nat.lt_or_ge 1 l.length with h3 | h3
        · omega
        · exact absurd (by rcases Nat.eq_zero_or_pos l.length with h4 | h4; exact .inl h4; exact .inr ⟨h2.1, by omega⟩) h1
      · cases h
  | false =>
    simp at h
    exact ⟨by omega, fun _ => by have := h.1; rw [this] at h ⊢; simp; omega⟩
theorem headP_err {l : List UInt8} {o : Bool} {er : Int} (h : headP l o = some (.error er)) : er ≠ 0 := by
  unfold headP at h
  split at h
  · split at h
    · injection h with h; injection h with h; omega
    · split at h <;> cases h
  · split at h <;> cases h
theorem listP_sound (st : Bool) (n : Nat) : Sound (listP st n) := by
  induction n with
  | zero =>
    intro l d c o hc
    rw [listP]
    cases hh : headP l o with
    | none => exact ⟨fun r h => by simp at h, fun er h => by simp at h; omega⟩
    | some x =>
      cases x with
      | error e => exact ⟨fun r h => by simp at h, fun er h => by simp at h; subst h; exact headP_err hh⟩
      | ok u => exact ⟨fun r h => by simp at h; subst h; exact ⟨(headP_ok hh).1, hc, (headP_ok hh).2⟩, fun er h => by simp at h⟩
  | succ n ih =>
    intro l d c o hc
    rw [listP]
    cases hh : headP l o with
    | some x =>
      cases x with
      | error e => exact ⟨fun r h => by simp at h, fun er h => by simp at h; subst h; exact headP_err hh⟩
      | ok u => exact ⟨fun r h => by simp at h; subst h; exact ⟨(headP_ok hh).1, hc, (headP_ok hh).2⟩, fun er h => by simp at h⟩
    | none =>
      simp only
      obtain ⟨s1, s2⟩ := objF_sound (st := st) ih (l := l) (d := d) (c := c)
      cases ho : objF st (listP st n) l d c with
      | error e => exact ⟨fun r h => by simp at h, fun er h => by simp at h; subst h; exact s2 _ ho⟩
      | ok x =>
        obtain ⟨x1, x2, x3, _⟩ := s1 x ho
        simp only
        obtain ⟨g1, g2⟩ := ih (l.drop x.used) d x.count o x3
        cases hr : listP st n (l.drop x.used) d x.count o with
        | error e => exact ⟨fun r h => by simp at h, fun er h => by simp at h; subst h; exact g2 _ hr⟩
        | ok r =>
          obtain ⟨u1, u2, u3⟩ := g1 r hr
          rw [List.length_drop] at u1 u3
          exact ⟨fun q h => by simp at h; subst h; exact ⟨by simp only; omega, u2, fun e => by have := u3 e; simp only; omega⟩, fun er h => by simp at h⟩
end Go.Proofs.YtjbmmdcnccclaaaDoor
/- Layer 2: the walk of object, over contracts of objects and kids. -/
namespace Go.Proofs.YtjbmmdcnccclaaaDoor
open Go.RowKit Go.Deep

theorem tagV_in {t : Int} (h : tagV t = true) : I64in t := by have := tagV_range h; exact ⟨by omega, by omega⟩
/-- The world with the result's block written. -/
abbrev finW (w wi : World) (t : Int) (vv kv : Value) : World := ((wi.setCell ⟨w.heap.size, 0, none⟩ (.int .i64 t)).setCell ⟨w.heap.size, 1, none⟩ vv).setCell ⟨w.heap.size, 2, none⟩ kv
/-- What is read elsewhere stays. -/
theorem finW_keep {w wi : World} (t : Int) (vv kv : Value) {b : Nat} (hb : b ≠ w.heap.size) : (finW w wi t vv kv).heap[b]? = wi.heap[b]? :=
  (Below.heap_setCell _ _ _ _ hb).trans ((Below.heap_setCell _ _ _ _ hb).trans (Below.heap_setCell _ _ _ _ hb))
theorem NsS.nil0 (w : World) (S : Nat → Prop) : NsS w S (.slice none 0 0) .nil := ⟨none, 0, rfl, Nat.le_refl _, by simp [maxLen], by simp [Ns.len], fun h => by simp [Ns.len] at h⟩
theorem BsS.nil0 (w : World) (S : Nat → Prop) : BsS w S (.slice none 0 0) [] := ⟨none, 0, rfl, by simp, by simp, by simp, by simp⟩
theorem BsS.capOf {w : World} {S : Nat → Prop} {A : Option Addr} {n c : Nat} {l : List UInt8} (h : BsS w S (.slice A n c) l) : n ≤ c ∧ c ≤ 9223372036854775807 := by
  obtain ⟨_, _, hv, h1, h2, _, _⟩ := h
  injection hv with _ e2 e3
  omega
theorem cutMid {w : World} {S : Nat → Prop} {bb bo n bc : Nat} {B : List UInt8} (h : BsS w S (.slice (some ⟨bb, bo, none⟩) n bc) B) (g u : Nat) (hg : g + u ≤ B.length) :
    BsS w S (.slice (if bc = g then some ⟨bb, bo, none⟩ else some ⟨bb, bo + g, none⟩) (g + u - g) (bc - g)) (rst B g (g + u)) := by
  obtain ⟨a, c, hv, h1, h2, h3, h4⟩ := h
  injection hv with ha hn hc
  subst ha hc hn
  have hl : (rst B g (g + u)).length = u := by rw [rst_len hg]; omega
  have hu : g + u - g = u := by omega
  refine ⟨_, bc - g, by rw [hl, hu], by rw [hl]; omega, by omega, by rw [hl]; omega, fun hp => ?_⟩
  rw [hl] at hp
  obtain ⟨b', off', e, hb, hcell⟩ := h4 (by omega)
  injection e with e
  injection e with e1 e2
  subst e1 e2
  rw [if_neg (by omega)]
  refine ⟨bb, bo + g, rfl, hb, fun j hj => ?_⟩
  rw [hl] at hj
  rw [Nat.add_assoc, hcell (g + j) (by omega), gb_rst hg (by omega)]
theorem NsS.form2 {w : World} {S : Nat → Prop} {v : Value} {l : Ns} (h : NsS w S v l) : ∃ A c, v = .slice A l.len c := by
  obtain ⟨a, c, hv, _⟩ := h; exact ⟨a, c, hv⟩
/-- Three cells of a block that came through a call. -/
theorem three {w : World} {X : Nat} {a b c : Value} {t : TypeId} (h : w.heap[X]? = some (.cells #[a, b, c] t (0, 0))) : w.cell? ⟨X, 0, none⟩ = some a ∧ w.cell? ⟨X, 1, none⟩ = some b ∧ w.cell? ⟨X, 2, none⟩ = some c ∧ ∀ o, w.frozen? ⟨X, o, none⟩ = false := by
  refine ⟨?_, ?_, ?_, fun o => by simp [World.frozen?, h]⟩ <;> (rw [cell_of_row _ _ _ _ _ _ h]; rfl)
end Go.Proofs.YtjbmmdcnccclaaaDoor
/- Layer 2: the walk of object, over contracts of objects and kids. -/
namespace Go.Proofs.YtjbmmdcnccclaaaDoor
open Go.RowKit Go.Deep

end Go.Proofs.YtjbmmdcnccclaaaDoor
/- Layer 2: the walk of object, over contracts of objects and kids. -/
namespace Go.Proofs.YtjbmmdcnccclaaaDoor
open Go.RowKit Go.Deep

end Go.Proofs.YtjbmmdcnccclaaaDoor
/- Layer 2: the walk of object, over contracts of objects and kids. -/
namespace Go.Proofs.YtjbmmdcnccclaaaDoor
open Go.RowKit Go.Deep

end Go.Proofs.YtjbmmdcnccclaaaDoor
/- Layer 2: the walks of objects and kids. -/
namespace Go.Proofs.YtjbmmdcnccclaaaDoor
open Go.RowKit Go.Deep

def preL (L : Ns) (u : Nat) : Except Int Lst → Except Int Lst
  | .error e => .error e
  | .ok r => .ok ⟨L.app r.list, u + r.used, r.count⟩
theorem preL_nil (r : Except Int Lst) : preL .nil 0 r = r := by
  cases r with
  | error e => rfl
  | ok r => simp [preL, Ns.app]
theorem preL_pre (L M : Ns) (u v : Nat) (r : Except Int Lst) : preL L u (preL M v r) = preL (L.app M) (u + v) r := by
  cases r with
  | error e => rfl
  | ok r => simp [preL, Ns.app_assoc, Nat.add_assoc]
theorem listP_err {st : Bool} {m : Nat} {l : List UInt8} {d c : Nat} {op : Bool} {er : Int} (h : headP l op = none) (ho : objP st m l d c = .error er) : listP st (m + 1) l d c op = .error er := by
  rw [listP, h]; simp only; rw [show objF st (listP st m) l d c = .error er from ho]
theorem listP_step {st : Bool} {m : Nat} {l : List UInt8} {d c : Nat} {op : Bool} {o : Obj1} (h : headP l op = none) (ho : objP st m l d c = .ok o) : listP st (m + 1) l d c op = preL (.cons o.tag o.val o.kids .nil) o.used (listP st m (l.drop o.used) d o.count op) := by
  rw [listP, h]; simp only; rw [show objF st (listP st m) l d c = .ok o from ho]; simp only
  cases listP st m (l.drop o.used) d o.count op <;> rfl
theorem listP_end {st : Bool} {m : Nat} {l : List UInt8} {d c : Nat} {op : Bool} {u : Nat} (h : headP l op = some (.ok u)) : listP st m l d c op = .ok ⟨.nil, u, c⟩ := by
  cases m <;> (rw [listP, h])
theorem listP_bad {st : Bool} {m : Nat} {l : List UInt8} {d c : Nat} {op : Bool} {e : Int} (h : headP l op = some (.error e)) : listP st m l d c op = .error e := by
  cases m <;> (rw [listP, h])
theorem preL_nilr (L : Ns) (u v c : Nat) : preL L u (.ok ⟨.nil, v, c⟩) = .ok ⟨L, u + v, c⟩ := by simp [preL, Ns.app_nil]
end Go.Proofs.YtjbmmdcnccclaaaDoor
/- Layer 2: the walks of Parse, Size and Canonical. -/
namespace Go.Proofs.YtjbmmdcnccclaaaDoor
open Go.RowKit Go.Deep

def nodesOf : Except Int Ns → Ns
  | .error _ => .nil
  | .ok l => l
/-- Objects in new memory and an error's number. -/
def NodesOut (r : Except Int Ns) (w : World) (e : Ending) (w' : World) : Prop :=
  ∃ v', e = .returned (.tuple #[v', .int .i64 (errOf r)]) ∧ NsS w' (New w w') v' (nodesOf r) ∧ Below w.heap.size w w'
theorem NodesOut.no {w w' : World} {r : Except Int Ns} {e : Int} (hr : r = .error e) (hb : Below w.heap.size w w') : NodesOut r w (.returned (.tuple #[.slice none 0 0, .int .i64 e])) w' := by
  subst hr
  exact ⟨_, rfl, NsS.nil0 _ _, hb⟩
theorem NodesOut.yes {w w' : World} {r : Except Int Ns} {l : Ns} {v : Value} (hr : r = .ok l) (hv : NsS w' (New w w') v l) (hb : Below w.heap.size w w') : NodesOut r w (.returned (.tuple #[v, .int .i64 0])) w' := by
  subst hr
  exact ⟨_, rfl, hv, hb⟩
theorem NodesOut.err {er : Int} {w : World} {e : Ending} {w' : World} (h : NodesOut (.error er) w e w') : ∃ a c, e = .returned (.tuple #[.slice a 0 c, .int .i64 er]) ∧ Below w.heap.size w w' := by
  obtain ⟨v, h1, h2, h3⟩ := h
  obtain ⟨a, c, rfl⟩ := NsS.form2 h2
  exact ⟨a, c, h1, h3⟩
theorem NodesOut.got {l : Ns} {w : World} {e : Ending} {w' : World} (h : NodesOut (.ok l) w e w') : ∃ a c, e = .returned (.tuple #[.slice a l.len c, .int .i64 0]) ∧ NsS w' (New w w') (.slice a l.len c) l ∧ Below w.heap.size w w' := by
  obtain ⟨v, h1, h2, h3⟩ := h
  obtain ⟨a, c, rfl⟩ := NsS.form2 h2
  exact ⟨a, c, h1, h2, h3⟩
theorem BytesOut.err {er : Int} {w : World} {e : Ending} {w' : World} (h : BytesOut (.error er) w e w') : ∃ a c, e = .returned (.tuple #[.slice a 0 c, .int .i64 er]) ∧ Below w.heap.size w w' := by
  obtain ⟨v, h1, h2, h3⟩ := h
  obtain ⟨a, c, rfl⟩ := BsS.form2 h2
  exact ⟨a, c, h1, h3⟩
theorem BytesOut.got {l : List UInt8} {w : World} {e : Ending} {w' : World} (h : BytesOut (.ok l) w e w') : ∃ a c, e = .returned (.tuple #[.slice a l.length c, .int .i64 0]) ∧ BsS w' (New w w') (.slice a l.length c) l ∧ Below w.heap.size w w' := by
  obtain ⟨v, h1, h2, h3⟩ := h
  obtain ⟨a, c, rfl⟩ := BsS.form2 h2
  exact ⟨a, c, h1, h2, h3⟩
theorem parseP_long {l : List UInt8} {st : Bool} (h : 4096 < l.length) : parseP l st = .error 2 := by unfold parseP; rw [if_pos h]
theorem parseP_err {l : List UInt8} {st : Bool} {er : Int} (h : ¬ 4096 < l.length) (hl : listP st l.length l 1 0 false = .error er) : parseP l st = .error er := by unfold parseP; rw [if_neg h, hl]
theorem parseP_ok {l : List UInt8} {st : Bool} {r : Lst} (h : ¬ 4096 < l.length) (hl : listP st l.length l 1 0 false = .ok r) : parseP l st = .ok r.list := by unfold parseP; rw [if_neg h, hl]
theorem rst_all (B : List UInt8) : rst B 0 B.length = B := by simp [rst]
theorem below_reader {w w' : World} {o : Obj} (hg : (w.alloc o).grownBy w' (some w.heap.size)) : Below w.heap.size w w' := ((Below.refl _ _).alloc (Nat.le_refl _) o).trans (below_of_only hg (by simp) (Nat.le_refl _))
/-- What is counted and how long the canonical encoding can be. -/
def Sized (L : List UInt8 → Nat → Nat → Bool → Except Int Lst) : Prop := ∀ l d c o r, L l d c o = .ok r → r.count = c + r.list.all ∧ r.list.enc.length ≤ 11 * r.list.all + r.used
theorem enc_len (t : Int) (v : List UInt8) (k r : Ns) : (Ns.cons t v k r).enc.length ≤ 11 + (if tagC t then k.enc else v).length + r.enc.length := by
  rw [enc_cons t v k r _ rfl]
  have h := lenG_len (if tagC t then k.enc else v).length
  have : (tagB t).length ≤ 2 := by unfold tagB; split <;> simp
  simp only [List.length_append]
  omega
theorem objF_sized {st : Bool} {L : List UInt8 → Nat → Nat → Bool → Except Int Lst} (hL : Sized L) (hS : Sound L) {l : List UInt8} {d c : Nat} {o : Obj1} (h : objF st L l d c = .ok o) :
    o.count = c + 1 + o.kids.all ∧ (if tagC o.tag then o.kids.enc else o.val).length ≤ 11 * o.kids.all + o.used := by
  unfold objF at h
  split at h
  · cases h
  · rename_i t k ht
    split at h
    · cases h
    · rename_i n j hs
      split at h
      · cases h
      · split at h
        · cases h
        · split at h
          · cases h
          · split at h
            · split at h
              · cases h
              · rename_i r hr
                injection h with h; subst h
                obtain ⟨g1, g2⟩ := hL _ _ _ _ _ hr
                simp only
                refine ⟨g1, ?_⟩
                split <;> (try simp) <;> omega
            · split at h
              · split at h
                · cases h
                · rename_i r hr
                  injection h with h; subst h
                  obtain ⟨g1, g2⟩ := hL _ _ _ _ _ hr
                  simp only
                  refine ⟨g1, ?_⟩
                  have hu : r.used ≤ n.toNat := by
                    have h9 : ¬ 256 < c + 1 := by assumption
                    have := ((hS _ (d + 1) (c + 1) false (by omega)).1 r hr).1
                    rw [List.length_take] at this
                    omega
                  split <;> (try simp) <;> omega
              · injection h with h; subst h
                rename_i h5
                simp only
                refine ⟨rfl, ?_⟩
                rw [if_neg h5]
                simp
                omega
theorem listP_sized (st : Bool) (n : Nat) : Sized (listP st n) := by
  induction n with
  | zero =>
    intro l d c o r h
    rw [listP] at h
    split at h
    · cases h
    · injection h with h; subst h; exact ⟨rfl, Nat.zero_le _⟩
    · cases h
  | succ n ih =>
    intro l d c o r h
    rw [listP] at h
    split at h
    · cases h
    · injection h with h; subst h; exact ⟨rfl, Nat.zero_le _⟩
    · (try simp only at h)
      cases ho : objF st (listP st n) l d c with
      | error e => rw [ho] at h; cases h
      | ok x =>
        rw [ho] at h
        (try simp only at h)
        obtain ⟨x1, x2⟩ := objF_sized ih (listP_sound st n) ho
        cases hr : listP st n (l.drop x.used) d x.count o with
        | error e => rw [hr] at h; cases h
        | ok q =>
          rw [hr] at h
          injection h with h; subst h
          obtain ⟨y1, y2⟩ := ih _ _ _ _ _ hr
          have := enc_len x.tag x.val x.kids q.list
          refine ⟨by simp only [Ns.all]; omega, by simp only [Ns.all]; omega⟩
theorem parseP_sized {B : List UInt8} {st : Bool} {l : Ns} (h : parseP B st = .ok l) : l.all ≤ 256 ∧ l.enc.length ≤ 10000 := by
  unfold parseP at h
  split at h
  · cases h
  · rename_i h4
    cases hr : listP st B.length B 1 0 false with
    | error e => rw [hr] at h; cases h
    | ok r =>
      rw [hr] at h
      injection h with h; subst h
      obtain ⟨h1, h2⟩ := listP_sized st B.length B 1 0 false r hr
      obtain ⟨h5, h6, _⟩ := (listP_sound st B.length B 1 0 false (by omega)).1 r hr
      omega
theorem parseP_err0 {B : List UInt8} {st : Bool} {er : Int} (h : parseP B st = .error er) : er ≠ 0 := by
  unfold parseP at h
  split at h
  · injection h with h; omega
  · cases hr : listP st B.length B 1 0 false with
    | error e => rw [hr] at h; injection h with h; subst h; exact (listP_sound st B.length B 1 0 false (by omega)).2 _ hr
    | ok r => rw [hr] at h; cases h
/-- What Canonical answers. -/
def canonP (B : List UInt8) : Except Int (List UInt8) :=
  match parseP B false with
  | .error e => .error e
  | .ok l => encP l
end Go.Proofs.YtjbmmdcnccclaaaDoor
/- Layer 2: the walk of Size. -/
namespace Go.Proofs.YtjbmmdcnccclaaaDoor
open Go.RowKit Go.Deep

/-- What Size answers. -/
def sizeQ (B : List UInt8) : Except Int Int :=
  match tagP B with
  | .error e => .error e
  | .ok (_, k) =>
    match sizeP (B.drop k) false false with
    | .error e => .error e
    | .ok (n, j) => .ok ((k : Int) + j + n)
def numOf : Except Int Int → Int
  | .error _ => 0
  | .ok n => n
theorem addr_of {w : World} {S : Nat → Prop} {a : Option Addr} {n c : Nat} {l : List UInt8} (h : BsS w S (.slice a n c) l) (hl : 0 < l.length) : ∃ b off, a = some ⟨b, off, none⟩ := by
  obtain ⟨_, _, hv, _, _, _, h4⟩ := h
  injection hv with ha _ _
  obtain ⟨b, off, e, _⟩ := h4 hl
  exact ⟨b, off, ha.trans e⟩
def NumPost (r : Except Int Int) (w : World) (e : Ending) (w' : World) : Prop := e = .returned (.tuple #[.int .i64 (numOf r), .int .i64 (errOf r)]) ∧ Below w.heap.size w w'
theorem NumPost.no {w w' : World} {r : Except Int Int} {e : Int} (hr : r = .error e) (hb : Below w.heap.size w w') : NumPost r w (.returned (.tuple #[.int .i64 0, .int .i64 e])) w' := by
  subst hr; exact ⟨rfl, hb⟩
theorem NumPost.yes {w w' : World} {r : Except Int Int} {n : Int} (hr : r = .ok n) (hb : Below w.heap.size w w') : NumPost r w (.returned (.tuple #[.int .i64 n, .int .i64 0])) w' := by
  subst hr; exact ⟨rfl, hb⟩
end Go.Proofs.YtjbmmdcnccclaaaDoor
/- Layer 2: the walks of the reference's tag and size. -/
namespace Go.Proofs.YtjbmmdcnccclaaaDoor
open Go.RowKit Go.Deep

def tripOf : Except Int (Int × Nat) → Value
  | .error e => .tuple #[.int .i64 0, .int .i64 0, .int .i64 e]
  | .ok x => .tuple #[.int .i64 x.1, .int .i64 (x.2 : Int), .int .i64 0]
theorem tripNo {r : Except Int (Int × Nat)} {e : Int} (h : r = .error e) : Ending.returned (.tuple #[.int .i64 0, .int .i64 0, .int .i64 e]) = .returned (tripOf r) := by subst h; rfl
theorem tripYes {r : Except Int (Int × Nat)} {n m : Int} {k : Nat} (h : r = .ok (n, k)) (hm : m = k) : Ending.returned (.tuple #[.int .i64 n, .int .i64 m, .int .i64 0]) = .returned (tripOf r) := by subst h hm; rfl
theorem gb0_cell {w : World} {S : Nat → Prop} {b off n c : Nat} {l : List UInt8} (h : BsS w S (.slice (some ⟨b, off, none⟩) n c) l) (hl : 0 < l.length) : w.cell? ⟨b, off, none⟩ = some (.int .u8 ((gb l 0).toNat : Int)) := h.cellAt rfl (j := 0) hl
end Go.Proofs.YtjbmmdcnccclaaaDoor
/- Layer 2: words for the reference's list. -/
namespace Go.Proofs.YtjbmmdcnccclaaaDoor
open Go.RowKit Go.Deep

def RListOut (r : Except Int Lst) (w : World) (e : Ending) (w' : World) : Prop :=
  match r with
  | .error er => er ≠ 0 ∧ e = .returned (.tuple #[.slice none 0 0, .int .i64 0, .int .i64 0, .int .i64 er]) ∧ Below w.heap.size w w'
  | .ok o => ∃ v, e = .returned (.tuple #[v, .int .i64 (o.used : Int), .int .i64 (o.count : Int), .int .i64 0]) ∧ NsS w' (New w w') v o.list ∧ Below w.heap.size w w'
/-- A slice from a place on; where the address stands at the array's end, A is whatever the model keeps. -/
theorem cutFrom {w : World} {S : Nat → Prop} {bb bo n bc : Nat} {l : List UInt8} (h : BsS w S (.slice (some ⟨bb, bo, none⟩) n bc) l) (g : Nat) (hg : g ≤ l.length) {A : Option Addr} (hA : (if bc = g then some (⟨bb, bo, none⟩ : Addr) else some ⟨bb, bo + g, none⟩) = A) :
    BsS w S (.slice A (l.length - g) (bc - g)) (l.drop g) := by
  subst hA
  obtain ⟨a, c, hv, h1, h2, h3, h4⟩ := h
  injection hv with ha hn hc
  subst ha hc hn
  refine ⟨_, bc - g, by rw [List.length_drop], by rw [List.length_drop]; omega, by omega, by rw [List.length_drop]; omega, fun hp => ?_⟩
  rw [List.length_drop] at hp
  obtain ⟨b', off', e, hb, hcell⟩ := h4 (by omega)
  injection e with e
  injection e with e1 e2
  subst e1 e2
  rw [if_neg (by omega)]
  refine ⟨bb, bo + g, rfl, hb, fun j hj => ?_⟩
  rw [List.length_drop] at hj
  rw [Nat.add_assoc, hcell (g + j) (by omega)]
  congr 2
  unfold gb
  rw [List.getD_eq_getElem?_getD, List.getD_eq_getElem?_getD, List.getElem?_drop]
theorem cutPart {w : World} {S : Nat → Prop} {bb bo n bc : Nat} {l : List UInt8} (h : BsS w S (.slice (some ⟨bb, bo, none⟩) n bc) l) (g u : Nat) (hg : g + u ≤ l.length) {A : Option Addr} (hA : (if bc = g then some (⟨bb, bo, none⟩ : Addr) else some ⟨bb, bo + g, none⟩) = A) :
    BsS w S (.slice A u (bc - g)) ((l.drop g).take u) := by
  have := cutMid h g u hg
  rw [hA, Nat.add_sub_cancel_left] at this
  have e : rst l g (g + u) = (l.drop g).take u := by unfold rst; rw [List.take_drop]
  rwa [e] at this
theorem cutGen {w : World} {S : Nat → Prop} {bb bo n bc : Nat} {l : List UInt8} (h : BsS w S (.slice (some ⟨bb, bo, none⟩) n bc) l) (g : Nat) (hg : g ≤ l.length) {A : Option Addr} {N C : Nat} (hA : g < l.length → A = some ⟨bb, bo + g, none⟩) (hN : N = l.length - g) (hC : N ≤ C ∧ C ≤ 9223372036854775807) :
    BsS w S (.slice A N C) (l.drop g) := by
  have h0 := cutFrom h g hg rfl
  obtain ⟨a, c, hv, h1, h2, h3, h4⟩ := h0
  refine ⟨A, C, by rw [hN, List.length_drop], by rw [List.length_drop]; omega, hC.2, h3, fun hp => ?_⟩
  obtain ⟨b, off, ha, hs, hc⟩ := h4 hp
  rw [List.length_drop] at hp
  have hbc := h.capOf
  have hlen := Bs.lenEq h
  rw [if_neg (by omega)] at hv
  injection hv with e1 _ _
  exact ⟨b, off, by rw [hA (by omega), e1, ha], hs, hc⟩
theorem cutGenP {w : World} {S : Nat → Prop} {bb bo n bc : Nat} {l : List UInt8} (h : BsS w S (.slice (some ⟨bb, bo, none⟩) n bc) l) (g u : Nat) (hg : g + u ≤ l.length) {A : Option Addr} {N C : Nat} (hA : 0 < u → A = some ⟨bb, bo + g, none⟩) (hN : N = u) (hC : N ≤ C ∧ C ≤ 9223372036854775807) :
    BsS w S (.slice A N C) ((l.drop g).take u) := by
  have h0 := cutPart h g u hg rfl
  have hl : ((l.drop g).take u).length = u := by rw [List.length_take, List.length_drop]; omega
  obtain ⟨a, c, hv, h1, h2, h3, h4⟩ := h0
  refine ⟨A, C, by rw [hN, hl], by rw [hl]; omega, hC.2, h3, fun hp => ?_⟩
  obtain ⟨b, off, ha, hs, hc⟩ := h4 hp
  rw [hl] at hp
  have hbc := h.capOf
  have hlen := Bs.lenEq h
  rw [if_neg (by omega)] at hv
  injection hv with e1 _ _
  exact ⟨b, off, by rw [hA hp, e1, ha], hs, hc⟩
theorem quiet_of_drew {P : Program} {f : FuncId} {args : Array Value} {w : World} {n : Nat} {v : Value}
    (h : Calls P f args (w.drewN n) fun e w' => e = .returned v ∧ ∃ m, w' = (w.drewN n).drewN m) : Calls P f args (w.drewN n) fun e w'' => e = .returned v ∧ ∃ m, w'' = w.drewN m :=
  h.mono fun _ _ ⟨he, m, hm⟩ => ⟨he, n + m, by rw [hm, World.drewN_drewN]⟩
theorem tripE {er : Int} : tripOf (.error er) = .tuple #[.int .i64 0, .int .i64 0, .int .i64 er] := rfl
theorem tripO {n : Int} {k : Nat} : tripOf (.ok (n, k)) = .tuple #[.int .i64 n, .int .i64 (k : Int), .int .i64 0] := rfl
theorem RListOut.no {r : Except Int Lst} {w w' : World} {er : Int} (hr : r = .error er) (ne : er ≠ 0) (hb : Below w.heap.size w w') : RListOut r w (.returned (.tuple #[.slice none 0 0, .int .i64 0, .int .i64 0, .int .i64 er])) w' := by subst hr; exact ⟨ne, rfl, hb⟩
theorem drop_empty {l : List UInt8} {u : Nat} (h : l.length ≤ u) : (l.drop u).length = 0 := by rw [List.length_drop]; omega
theorem gb_drop (l : List UInt8) (u j : Nat) : gb (l.drop u) j = gb l (u + j) := by unfold gb; rw [List.getD_eq_getElem?_getD, List.getD_eq_getElem?_getD, List.getElem?_drop]
theorem below_drews (w : World) (n : Nat) : Below w.heap.size w (w.drewN n) := below_drewN (Below.refl _ _) n
theorem set_new {w wi : World} {B X : Nat} (h : Below B w wi) (hX : B ≤ X) (i : Nat) (v : Value) : Below B w (wi.setCell ⟨X, i, none⟩ v) := h.setCell hX v
end Go.Proofs.YtjbmmdcnccclaaaDoor
/- made.Dice: Spoil. -/
namespace Go.Proofs.YtjbmmdcnccclaaaDoor
open Go.RowKit Go.Deep

/-- An own row of bytes, cell by cell. -/
theorem OwnB.slot {w : World} {base : Nat} {A : Option Addr} {c : Nat} {l : List UInt8} (h : OwnB w base (.slice A l.length c) l) (hl : 0 < l.length) :
    ∃ g, A = some ⟨g, 0, none⟩ ∧ base ≤ g ∧ g < w.heap.size ∧ l.length ≤ c ∧ c ≤ 9223372036854775807 ∧ (∀ j, j < l.length → w.cell? ⟨g, j, none⟩ = some (U8 (gb l j))) ∧ ∀ j, w.frozen? ⟨g, j, none⟩ = false := by
  have hc := fun g => World.ownsRow.cells h (g := g)
  rcases h.2 with ⟨e, h0⟩ | ⟨g, cap, cur, hv, hb, hh, hn, hm, r⟩
  · omega
  · injection hv with e1 _ e3
    subst e1 e3
    refine ⟨g, rfl, hb, (Array.getElem?_eq_some_iff.1 hh).1, hn, hm, fun j hj => ?_, fun j => by simp [World.frozen?, hh]⟩
    have := hc g rfl j (U8 (gb l j)) (mapU8_get l j hj)
    have e : (⟨g, 0, none⟩ : Addr).add j = ⟨g, 0 + j, none⟩ := by unfold Addr.add; split <;> simp_all
    rwa [e, Nat.zero_add] at this
/-- One byte of a slice is turned. -/
theorem BsS.set {w : World} {S : Nat → Prop} {g c k : Nat} {l : List UInt8} (h : BsS w S (.slice (some ⟨g, 0, none⟩) l.length c) l) (hk : k < l.length) (u : UInt8) : BsS (w.setCell ⟨g, k, none⟩ (U8 u)) S (.slice (some ⟨g, 0, none⟩) l.length c) (l.set k u) := by
  obtain ⟨a, c', hv, h1, h2, h3, h4⟩ := h
  injection hv with e1 e2 e3
  subst e1 e3
  have hll : (l.set k u).length = l.length := by simp
  refine ⟨_, c, by rw [hll], by omega, h2, by omega, fun hp => ?_⟩
  rw [hll] at hp
  obtain ⟨b, off, ha, hb, hc⟩ := h4 hp
  injection ha with ha
  injection ha with ha1 ha2
  subst ha1 ha2
  refine ⟨g, 0, rfl, hb, fun j hj => ?_⟩
  rw [hll] at hj
  by_cases e : j = k
  · subst e
    rw [Nat.zero_add]
    have := hc j hj
    rw [Nat.zero_add] at this
    rw [World.cell?_setCell_same (h := this)]
    congr 2
    unfold gb
    simp [hj]
  · rw [World.cell?_setCell_other (h := by intro h; injection h with _ h; omega), hc j hj]
    congr 2
    unfold gb
    simp [show ¬ k = j by omega]
/-- What a number of a byte's size is. -/
theorem byte_of {x : Int} (h0 : 0 ≤ x) (h1 : x < 256) : ∃ u : UInt8, Value.int .u8 x = U8 u := ⟨ofI x, by rw [← val_mod, Int.emod_eq_of_lt h0 h1]⟩
def SpoilOut (B : Nat) (w : World) (p n : Nat) (l : List UInt8) (e : Ending) (w' : World) : Prop := ∃ v' l', e = .returned v' ∧ BsS w' (New w w') v' l' ∧ l'.length ≤ l.length + 1 ∧ DiePost B w p n w'
/-- Behind a store into the own row. -/
theorem spoil_set {B : Nat} {w wi : World} {p n g c k : Nat} {l : List UInt8} (h : DRow B w wi p n (.slice (some ⟨g, 0, none⟩) l.length c) l) (hl : l.length ≤ 1000000000) (hk : k < l.length) {x : Int} (h0 : 0 ≤ x) (h1 : x < 256) :
    SpoilOut B w p n l (.returned (.slice (some ⟨g, 0, none⟩) l.length c)) (wi.setCell ⟨g, k, none⟩ (.int .u8 x)) := by
  obtain ⟨u, hu⟩ := byte_of h0 h1
  rw [hu]
  have hg := (h.own.lt g rfl)
  have hb := h.own.out (by omega) w (Nat.le_refl _)
  have hB := h.2.2
  refine ⟨_, l.set k u, rfl, (hb.set hk u).keep fun b hs _ => ⟨rfl, hs.1, by simpa [World.setCell] using hs.2⟩, by simp, h.die.keep (by simp [World.setCell]) fun b hb => Below.heap_setCell _ _ _ _ (by show b ≠ g; omega), ?_⟩
  have h2 := h.2.1.2
  exact ⟨h2.os, h2.tape, h2.output, by simpa [World.setCell] using h2.size, fun i hi hne => (Below.heap_setCell _ _ _ _ (by show i ≠ g; omega)).trans (h2.block i hi hne)⟩
theorem heap_setCells (g : Nat) : ∀ (vs : List Value) (o : Nat) (w : World), (w.setCells g o vs).heap.size = w.heap.size ∧ (w.setCells g o vs).os = w.os ∧ (w.setCells g o vs).tape = w.tape ∧ (w.setCells g o vs).output = w.output ∧ ∀ i, i ≠ g → (w.setCells g o vs).heap[i]? = w.heap[i]? := by
  intro vs
  induction vs with
  | nil => intro o w; exact ⟨rfl, rfl, rfl, rfl, fun _ _ => rfl⟩
  | cons v vs ih =>
    intro o w
    obtain ⟨h1, h2, h3, h4, h5⟩ := ih (o + 1) (w.setCell ⟨g, o, none⟩ v)
    exact ⟨h1.trans (by simp [World.setCell]), h2, h3, h4, fun i hi => (h5 i hi).trans (Below.heap_setCell _ _ _ _ hi)⟩
/-- Behind a cut of one byte in the own row. -/
theorem spoil_del {B : Nat} {w wi : World} {p n g c k : Nat} {l : List UInt8} (h : DRow B w wi p n (.slice (some ⟨g, 0, none⟩) l.length c) l) (hl : l.length ≤ 1000000000) (hk : k < l.length) (hc : l.length ≤ c) (sc : ∀ j, j < l.length → wi.cell? ⟨g, j, none⟩ = some (U8 (gb l j))) :
    SpoilOut B w p n l (.returned (.slice (some ⟨g, 0, none⟩) (k + (l.length - (k + 1))) c)) (wi.drew.setCells g (0 + k * 1) ((l.drop (k + 1)).map U8)) := by
  have hg := (h.own.lt g rfl)
  have hB := h.2.2
  obtain ⟨_, _, hv, _, hcm, _, _⟩ := h.own.out (by omega) w (Nat.le_refl _)
  injection hv with _ _ hv
  subst hv
  obtain ⟨e1, e2, e3, e4, e5⟩ := heap_setCells g ((l.drop (k + 1)).map U8) (0 + k * 1) wi.drew
  rw [Nat.zero_add, Nat.mul_one] at e1 e2 e3 e4 e5 ⊢
  have h2 := h.2.1.2
  have hln : (l.take k ++ l.drop (k + 1)).length = k + (l.length - (k + 1)) := by simp; omega
  refine ⟨_, l.take k ++ l.drop (k + 1), rfl, ⟨_, c, by rw [hln], by omega, hcm, by omega, fun _ => ⟨g, 0, rfl, ⟨hg.1, by rw [e1]; exact hg.2⟩, fun j hj => ?_⟩⟩, by omega, h.die.keep (by rw [e1]; exact Nat.le_refl _) fun b hb => e5 b (by omega), ⟨e2.trans h2.os, e3.trans h2.tape, e4.trans h2.output, by rw [e1]; exact h2.size, fun i hi hne => (e5 i (by omega)).trans (h2.block i hi hne)⟩⟩
  rw [hln] at hj
  rw [Nat.zero_add]
  by_cases hjk : j < k
  · rw [World.cell?_setCells_out g _ k wi.drew ⟨g, j, none⟩ (fun _ _ => .inl hjk)]
    refine (sc j (by omega)).trans ?_
    congr 2
    unfold gb
    have hlt : min k l.length = k := by omega
    simp [List.getElem?_append, hjk, hlt, show j < l.length by omega]
  · have hvl : j - k < ((l.drop (k + 1)).map U8).length := by simp; omega
    have := World.cell?_setCells_in g ((l.drop (k + 1)).map U8) k wi.drew (fun q hq => by
      have hq : q < l.length - (k + 1) := by simpa using hq
      show (wi.cell? _).isSome = true
      rw [sc (k + q) (by omega)]; rfl) (j - k) hvl
    rw [show k + (j - k) = j by omega] at this
    rw [this]
    congr 1
    simp only [List.getElem_map, List.getElem_drop]
    congr 1
    unfold gb
    have hlt : min k l.length = k := by omega
    simp [List.getElem?_append, hjk, hlt, show k + 1 + (j - k) < l.length by omega]
set_option maxRecDepth 100000 in
set_option maxHeartbeats 4000000 in
theorem spoil_any (B p n : Nat) (l : List UInt8) (v : Value) (w : World) (hv : BsS w (fun b => b < w.heap.size ∧ b ≠ p) v l) (hl : l.length ≤ 1000000000) (hd : Die B w p n) :
    Calls Tryd.prog 17 #[.pointer (some ⟨p, 0, none⟩), v] w (SpoilOut B w p n l) := by
  have H0 := Lib.hid (DRow.start hd)
  obtain ⟨va, vc, rfl⟩ := hv.form2
  have HV := Lib.hid hv
  clear hv hd
  rcases Nat.eq_zero_or_pos l.length with hl0 | hl0
  · have e : l = [] := List.eq_nil_of_length_eq_zero hl0
    subst e
    clear hl0
    go_enter Tryd.func17, Tryd.ntmps17
    go_wp2_with (first
      | (at_builtin; (with_reducible refine wpList_more rfl (.const (.slice none 0 0)) (.tmp 7) rfl w.heap.size (.slice none 0 0) [] rfl H0.out.own va ([] : List UInt8).length vc [] _ rfl HV.out (by simp) (Nat.le_refl _) ?_); intro v1 w1 hgr; have H1 := Lib.hid (H0.out.grew hgr); obtain ⟨a1, c1, rfl⟩ := H1.out.own.form; clear hgr)
      | (go_at_call 16; refine (next_any B p n _ _ H1.out.die (by decide) (by decide)).mono ?_; rintro e w2 ⟨z, rfl, hz, hd⟩; have H2 := Lib.hid (H1.out.call hd); clear hd))
    go_ret
    obtain ⟨u, hu⟩ := byte_of (x := (z : Int)) (by omega) (by omega)
    rw [hu]
    have hH := H2.out
    refine ⟨_, [u], rfl, (lit_new w2 [u] _ (by simp) _ rfl).keep fun b hs _ => ⟨rfl, by have := hs.1; have := hH.size; omega, hs.2⟩, by simp, (hH.alloc _).2.1⟩
  · have HX := Lib.hid hl
    go_enter Tryd.func17, Tryd.ntmps17
    go_upto_region 7 with (first
      | (at_builtin; (with_reducible refine wpList_more rfl (.const (.slice none 0 0)) (.tmp 7) rfl w.heap.size (.slice none 0 0) [] rfl H0.out.own va l.length vc l _ rfl HV.out (by simp; omega) (Nat.le_refl _) ?_); intro v1 w1 hgr; rw [List.nil_append] at hgr; have H1 := Lib.hid (H0.out.grew hgr); obtain ⟨a1, c1, rfl⟩ := H1.out.own.form; clear hgr)
      | (go_at_call 16; refine (next_any B p n _ _ H2.out.die (by decide) (by decide)).mono ?_; rintro e w3 ⟨q, rfl, hq, hd⟩; have H3 := Lib.hid (H2.out.call hd); clear hd)
      | (go_at_call 16; refine (next_any B p n _ _ H1.out.die (by omega) (by omega)).mono ?_; rintro e w2 ⟨k, rfl, hk, hd⟩; have H2 := Lib.hid (H1.out.call hd); clear hd))
    have hkl : k < l.length := by omega
    obtain ⟨g, rfl, hg1, hg2, hg3, hg4, sc, sf⟩ := H3.out.own.slot hl0
    have hpg : p ≠ g := by have := H3.out.die.lt; have := H3.out.2.2; omega
    have ck := sc k hkl; have fk := sf k
    have SC := Lib.hid sc; have SF := Lib.hid sf
    clear sc sf H0 HV
    obtain rfl | rfl | rfl | rfl : q = 0 ∨ q = 1 ∨ q = 2 ∨ q = 3 := by omega
    · have ih5 := Lib.hid (fun (w4 : World) (h : DRow B w w4 p n (.slice (some ⟨g, 0, none⟩) l.length c1) l) => h.own.slot hl0)
      go_wp2_with (go_at_call 16; refine (next_any B p n _ _ H3.out.die (by decide) (by decide)).mono ?_; rintro e w4 ⟨z, rfl, hz, hd⟩; have H4 := Lib.hid (H3.out.call hd); obtain ⟨g', e1, _, _, _, _, sc, sf⟩ := ih5.out w4 H4.out; obtain rfl : g = g' := (by injection e1 with e1; injection e1); have c4 := sc k hkl; have f4 := sf k; clear hd e1 sc sf)
      go_ret
      exact spoil_set H4.out HX.out hkl (by omega) (by omega)
    · have D4 : Hid (Die B w3.drew p n) := (show Die B w3.drew p n from H3.out.die)
      have ih5 := Lib.hid (fun (w4 : World) (h : DRow B w w4 p n (.slice (some ⟨g, 0, none⟩) l.length c1) l) => h.own.slot hl0)
      go_upto_region 10 with fail
      go_region_with (go_at_call 16; refine (next_any B p n _ _ D4.out (by decide) (by decide)).mono ?_; rintro e w4 ⟨z, rfl, hz, hd⟩; have H4 := Lib.hid (H3.out.call (show DiePost B w3 p n w4 from ⟨hd.1, ⟨hd.2.os, hd.2.tape, hd.2.output, hd.2.size, hd.2.block⟩⟩)); obtain ⟨g', e1, _, _, _, _, sc, sf⟩ := ih5.out w4 H4.out; obtain rfl : g = g' := (by injection e1 with e1; injection e1); have c4 := sc k hkl; have f4 := sf k; clear hd e1 sc sf)
      all_goals go_wp2_with fail
      all_goals go_ret
      all_goals exact spoil_set H4.out HX.out hkl (bv_nn _) (bv_lt _)
    · obtain ⟨A, hA, hnews⟩ : ∃ A : Addr, (if c1 = k + 1 then some (⟨g, 0, none⟩ : Addr) else some ⟨g, k + 1, none⟩) = some A ∧ Hid (∀ j u, ((l.drop (k + 1)).map U8)[j]? = some u → w3.drew.cell? (A.add j) = some u) := by
        by_cases h : c1 = k + 1
        · refine ⟨⟨g, 0, none⟩, by simp [h], fun j u hu => ?_⟩
          have h0 : ((l.drop (k + 1)).map U8) = [] := by rw [List.drop_eq_nil_of_le (by omega)]; rfl
          rw [h0] at hu
          simp at hu
        · refine ⟨⟨g, k + 1, none⟩, by simp [h], fun j u hu => ?_⟩
          have hj : j < l.length - (k + 1) := by
            have := (List.getElem?_eq_some_iff.1 hu).1
            simpa using this
          rw [mapU8_get _ j (by simpa using hj)] at hu
          injection hu with hu
          subst hu
          rw [Addr.add_lit, gb_drop]
          exact SC.out (k + 1 + j) (by omega)
      have s1 : Hid (((l.drop (k + 1)).map U8).length = (l.length - (k + 1)) * 1) := by show _ = _; simp
      have s2 : Hid (∀ u ∈ (l.drop (k + 1)).map U8, u.oneCell' = true) := by
        intro u hu
        obtain ⟨x, _, rfl⟩ := List.mem_map.1 hu
        rfl
      have s3 : Hid (∀ j, j < ((l.drop (k + 1)).map U8).length → (w3.drew.cell? ⟨g, 0 + k * 1 + j, none⟩).isSome = true ∧ w3.drew.frozen? ⟨g, 0 + k * 1 + j, none⟩ = false) := by
        intro j hj
        have hj : j < l.length - (k + 1) := by simpa using hj
        rw [Nat.zero_add, Nat.mul_one]
        exact ⟨by show (w3.cell? _).isSome = true; rw [SC.out (k + j) (by omega)]; rfl, SF.out (k + j)⟩
      have hic : k ≤ c1 := by omega
      have hwr : IntKind.i64.wrap ((k : Int) + 1) = (k : Int) + 1 := by rw [IntKind.wrap_i64]; omega
      have hp0 : (0 : Int) ≤ (k : Int) + 1 := by omega
      have hp1 : (k : Int) + 1 ≤ (l.length : Int) := by omega
      have hp2 : ((k : Int) + 1).toNat = k + 1 := by omega
      obtain ⟨i0, hinfo, hzz⟩ := Option.map_eq_some_iff.1 infoU8
      simp only [Prod.mk.injEq] at hzz
      obtain ⟨hz, hsize, hbb⟩ := hzz
      have HI := Lib.hid hinfo; have HZ := Lib.hid hsize
      clear hinfo hsize hz hbb ck fk
      go_upto_region 12 with fail
      go_region_law (refine step_append_room rfl (.tmp 52) (.tmp 56) 23 rfl 5 i0 1 Tryd.underlying23 HI.out HZ.out g 0 k c1 (by simp [Act.eval, Act.put]) A (l.length - (k + 1)) (c1 - (k + 1)) ((l.drop (k + 1)).map U8) (by simp [Act.eval, Act.put]) s1.out hnews.out s2.out (by omega) s3.out ?_)
      go_wp2_with fail
      go_ret
      have e := spoil_del H3.out HX.out hkl hg3 SC.out
      rw [Nat.zero_add, Nat.mul_one, List.map_drop] at e
      exact e
    · go_wp2_with (first
        | (at_builtin; (with_reducible refine wpList_push1s rfl (.tmp 22) (.tmp 26) rfl w.heap.size (.slice (some ⟨g, 0, none⟩) l.length c1) l rfl H4.out.own (z : Int) (by omega) (by omega) _ w4.heap.size rfl rfl (by omega) H4.out.size ?_); intro v5 w5 hgr; obtain ⟨l5, E5, k5⟩ := nameL (l ++ [ofI (z : Int)]) (l.length + 1) (by simp); rw [E5.out] at hgr; have H5 := Lib.hid (H4.out.grew hgr); obtain ⟨a5, c5, rfl⟩ := H5.out.own.form; clear hgr)
        | (go_at_call 16; refine (next_any B p n _ _ H3.out.die (by decide) (by decide)).mono ?_; rintro e w4 ⟨z, rfl, hz, hd⟩; have H4 := Lib.hid (H3.out.call hd); clear hd))
      go_ret
      exact ⟨_, l5, rfl, H5.out.own.out (by omega) w (Nat.le_refl _), by omega, H5.out.2.1⟩
end Go.Proofs.YtjbmmdcnccclaaaDoor
