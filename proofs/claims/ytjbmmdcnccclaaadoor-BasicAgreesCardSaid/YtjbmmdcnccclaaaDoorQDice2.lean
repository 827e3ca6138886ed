/- made.Mod. -/
import Derived.Test.YtjbmmdcnccclaaaDoorTlv1
import Derived.Test.YtjbmmdcnccclaaaDoorQTlv7
import Derived.Test.YtjbmmdcnccclaaaDoorAppB
namespace Go.Proofs.YtjbmmdcnccclaaaDoor
open Go.RowKit Go.Deep

theorem mod_any (n m : Int) (hn : I64in n) (hm : 0 < m) (hm2 : m ≤ 9223372036854775807) (w : World) : Calls Tryd.prog 25 #[.int .i64 n, .int .i64 m] w fun e w' => e = .returned (.int .i64 (n % m)) ∧ w' = w := by
  obtain ⟨h1, h2⟩ := hn
  have hz : m ≠ 0 := by omega
  have a1 : Int.tmod n m < m := Int.tmod_lt_of_pos n hm
  have a2 : -m < Int.tmod n m := by
    have := Int.lt_tmod_of_pos n hm
    omega
  obtain ⟨q, hq⟩ : ∃ q, Int.tmod n m = q := ⟨_, rfl⟩
  rw [hq] at a1 a2
  have e : n % m = if q < 0 then q + m else q := by
    have h := Int.tmod_add_mul_tdiv n m
    rw [hq] at h
    split
    · have := Int.emod_eq_of_lt (a := q + m) (b := m) (by omega) (by omega)
      rw [← this, ← h, Int.add_mul_emod_self_left, ← Int.add_emod_right]
    · have := Int.emod_eq_of_lt (a := q) (b := m) (by omega) (by omega)
      rw [← h, Int.add_mul_emod_self_left, this]
  have E := Lib.hid e
  by_cases hneg : q < 0
  · rw [if_pos hneg] at e
    have E := Lib.hid e
    clear e
    go_enter Tryd.func25, Tryd.ntmps25
    go_wp2_with fail
    go_ret
    rw [E.out]
    exact ⟨rfl, rfl⟩
  · rw [if_neg hneg] at e
    have E := Lib.hid e
    clear e
    go_enter Tryd.func25, Tryd.ntmps25
    go_wp2_with fail
    go_ret
    rw [E.out]
    exact ⟨rfl, rfl⟩
end Go.Proofs.YtjbmmdcnccclaaaDoor
/- made.Dice: what it is that a pointer points at dice, and Next, One. -/
namespace Go.Proofs.YtjbmmdcnccclaaaDoor
open Go.RowKit Go.Deep

/-- A slice of n numbers. -/
def IntsS (w : World) (S : Nat → Prop) (v : Value) (n : Nat) : Prop :=
  ∃ a c, v = .slice a n c ∧ n ≤ c ∧ c ≤ 9223372036854775807 ∧ n ≤ 1000000000000000000 ∧
    (0 < n → ∃ b off, a = some ⟨b, off, none⟩ ∧ S b ∧ b < w.heap.size ∧ ∀ j, j < n → ∃ z, I64in z ∧ w.cell? ⟨b, off + j, none⟩ = some (.int .i64 z))
theorem IntsS.keep {w w' : World} {S S' : Nat → Prop} {v : Value} {n : Nat} (h : IntsS w S v n) (hk : ∀ b, S b → b < w.heap.size → w'.heap[b]? = w.heap[b]? ∧ S' b) : IntsS w' S' v n := by
  obtain ⟨a, c, e, h1, h2, h3, h4⟩ := h
  refine ⟨a, c, e, h1, h2, h3, fun h0 => ?_⟩
  obtain ⟨b, off, ea, hb, hl, hr⟩ := h4 h0
  refine ⟨b, off, ea, (hk b hb hl).2, lt_of_same (hk b hb hl).1 hl, fun j hj => ?_⟩
  obtain ⟨z, hz, hc⟩ := hr j hj
  exact ⟨z, hz, (by simp [World.cell?, (hk b hb hl).1] : w'.cell? ⟨b, off + j, none⟩ = w.cell? ⟨b, off + j, none⟩).trans hc⟩
theorem IntsS.form {w : World} {S : Nat → Prop} {v : Value} {n : Nat} (h : IntsS w S v n) : ∃ a c, v = .slice a n c := by
  obtain ⟨a, c, e, _⟩ := h; exact ⟨a, c, e⟩
/-- Dice of n numbers in block p, all below block B. -/
def Die (B : Nat) (w : World) (p n : Nat) : Prop :=
  ∃ v at_, at_ ≤ n ∧ w.heap[p]? = some (.cells #[v, .int .i64 (at_ : Nat)] 55 (0, 0)) ∧ IntsS w (fun b => b ≠ p ∧ b < B) v n ∧ p < B ∧ B ≤ w.heap.size
theorem Die.lt {B : Nat} {w : World} {p n : Nat} (h : Die B w p n) : p < B := by obtain ⟨_, _, _, _, _, h, _⟩ := h; exact h
theorem Die.le {B : Nat} {w : World} {p n : Nat} (h : Die B w p n) : B ≤ w.heap.size := by obtain ⟨_, _, _, _, _, _, h⟩ := h; exact h
theorem Die.keep {B : Nat} {w w' : World} {p n : Nat} (h : Die B w p n) (hs : w.heap.size ≤ w'.heap.size) (hk : ∀ b, b < B → w'.heap[b]? = w.heap[b]?) : Die B w' p n := by
  obtain ⟨v, a, h1, h2, h3, h4, h5⟩ := h
  exact ⟨v, a, h1, (hk p h4).trans h2, h3.keep fun b hs _ => ⟨hk b hs.2, hs⟩, h4, Nat.le_trans h5 hs⟩
theorem Die.below {B : Nat} {w w' : World} {p n : Nat} (h : Die B w p n) (hb : Below B w w') : Die B w' p n := h.keep hb.size hb.block
theorem Die.alloc {B : Nat} {w : World} {p n : Nat} (h : Die B w p n) (o : Obj) : Die B (w.alloc o) p n := h.keep (by simp) fun b hl => Below.heap_alloc _ _ _ (Nat.lt_of_lt_of_le hl h.le)
theorem two {w : World} {X : Nat} {a b : Value} {t : TypeId} (h : w.heap[X]? = some (.cells #[a, b] t (0, 0))) : w.cell? ⟨X, 0, none⟩ = some a ∧ w.cell? ⟨X, 1, none⟩ = some b ∧ ∀ o, w.frozen? ⟨X, o, none⟩ = false := by
  refine ⟨?_, ?_, fun o => by simp [World.frozen?, h]⟩ <;> (rw [cell_of_row _ _ _ _ _ _ h]; rfl)
theorem two_set1 {w : World} {p : Nat} {a b u : Value} {t : TypeId} (h : w.heap[p]? = some (.cells #[a, b] t (0, 0))) : (w.setCell ⟨p, 1, none⟩ u).heap[p]? = some (.cells #[a, u] t (0, 0)) := by
  show (w.heap.modify p _)[p]? = _
  rw [Array.getElem?_modify, if_pos rfl, h]
  rfl
/-- What a call leaves of the dice. -/
def DiePost (B : Nat) (w : World) (p n : Nat) (w' : World) : Prop := Die B w' p n ∧ w.grownBy w' (some p)
theorem DiePost.trans {B : Nat} {w w1 w2 : World} {p n : Nat} (h1 : DiePost B w p n w1) (h2 : DiePost B w1 p n w2) : DiePost B w p n w2 := ⟨h2.1, only_trans h1.2 h2.2⟩
set_option maxRecDepth 100000 in
set_option maxHeartbeats 1000000 in
theorem next_any (B p n : Nat) (m : Int) (w : World) (h : Die B w p n) (hm : 0 < m) (hm2 : m ≤ 1000000000000) :
    Calls Tryd.prog 16 #[.pointer (some ⟨p, 0, none⟩), .int .i64 m] w fun e w' => ∃ z : Nat, e = .returned (.int .i64 z) ∧ (z : Int) < m ∧ DiePost B w p n w' := by
  have hD := Lib.hid h
  obtain ⟨v, k, hk, hp, ⟨a, c, rfl, hnc, hc9, hn9, hcells⟩, hpB, hBs⟩ := h
  obtain ⟨c0, c1, cf⟩ := two hp
  have f1 := cf 1
  have HP := Lib.hid hp
  clear hp cf
  by_cases hkn : k = n
  · subst hkn
    clear hcells
    go_enter Tryd.func16, Tryd.ntmps16
    go_wp2_with fail
    go_quiet (fail)
    go_wp2_with fail
    go_ret
    exact ⟨0, rfl, hm, hD.out.keep (Nat.le_refl _) fun b hl => rfl, only_drewN (World.grownBy.refl _ _) _⟩
  · have hkl : k < n := by omega
    obtain ⟨b, off, rfl, hbp, hbl, hz⟩ := hcells (by omega)
    obtain ⟨z, hz1, hz2⟩ := hz k hkl
    have Hz := Lib.hid hz
    have hkk : (k : Int) < n := by omega
    have hpl : p < w.heap.size := Nat.lt_of_lt_of_le hpB hBs
    have M := Lib.hid (fun w => mod_any z m hz1 hm (by omega) w)
    have hz0 : 0 ≤ z % m := Int.emod_nonneg _ (by omega)
    have hz3 : z % m < m := Int.emod_lt_of_pos _ hm
    obtain ⟨r, hr⟩ : ∃ r : Nat, Hid (z % m = r) := ⟨(z % m).toNat, by show _ = _; omega⟩
    rw [hr.out] at M hz3
    clear hkn hcells hz hz0 hz1
    go_enter Tryd.func16, Tryd.ntmps16
    go_wp2_with fail
    go_quiet (fail)
    go_wp2_with fail
    go_quiet ((go_at_call 25; exact Calls.quiet_of_same (M.out _)))
    go_wp2_with fail
    go_ret
    obtain ⟨v', k', hk', hp', hI, _, _⟩ := hD.out
    have e := HP.out.symm.trans hp'
    have hI2 : IntsS w (fun b => b ≠ p ∧ b < B) (.slice (some ⟨b, off, none⟩) n c) n := by
      injection e with e; injection e with e1 _ _; injection e1 with e1; injection e1 with e1 _; rw [e1]; exact hI
    exact ⟨r, rfl, hz3, ⟨_, k + 1, by omega, two_set1 HP.out, hI2.keep fun b' hs hb => ⟨Below.heap_setCell _ _ _ _ hs.1, hs⟩, hpB, by simpa [World.setCell] using hBs⟩, only_drewN (only_setCell (only_drewN (World.grownBy.refl _ _) _) (.inl rfl) _) _⟩
theorem light_any (S : Nat → Prop) (v : Value) (n : Nat) (w : World) (h : IntsS w S v n) : Calls Tryd.prog 13 #[v] w fun e w' => e = .returned (.bool (decide ((n : Int) ≤ 400))) ∧ w' = w := by
  obtain ⟨a, c, rfl⟩ := h.form
  clear h
  go_enter Tryd.func13, Tryd.ntmps13
  go_wp2_with fail
  go_ret
  exact ⟨rfl, rfl⟩
theorem roll_any (v : Value) (n : Nat) (w : World) (h : IntsS w (· < w.heap.size) v n) : Calls Tryd.prog 14 #[v] w fun e w' => e = .returned (.pointer (some ⟨w.heap.size, 0, none⟩)) ∧ Die (w.heap.size + 1) w' w.heap.size n ∧ Below w.heap.size w w' := by
  obtain ⟨a, c, rfl⟩ := h.form
  have H := Lib.hid h
  clear h
  go_enter Tryd.func14, Tryd.ntmps14
  go_wp2_with fail
  go_ret
  exact ⟨rfl, ⟨_, 0, by omega, heap_alloc_new _ _, H.out.keep fun b hs hb => ⟨Below.heap_alloc _ _ _ hb, by omega, by omega⟩, Nat.lt_succ_self _, by simp⟩, (Below.refl _ _).alloc (Nat.le_refl _) _⟩
end Go.Proofs.YtjbmmdcnccclaaaDoor
/- made.Dice: Tag and Bytes. -/
namespace Go.Proofs.YtjbmmdcnccclaaaDoor
open Go.RowKit Go.Deep

theorem tag_long {a b : Nat} (ha : (a : Int) < 4) (hb : (b : Int) < 127) : (tagV (256 * (31 + 64 * (a : Int)) + 1 + b) = true ∧ tagC (256 * (31 + 64 * (a : Int)) + 1 + b) = false) ∧ (tagV (256 * (31 + 64 * (a : Int)) + 1 + b + 8192) = true ∧ tagC (256 * (31 + 64 * (a : Int)) + 1 + b + 8192) = true) := by
  have h : ∀ a : Fin 4, ∀ b : Fin 127, (tagV (256 * (31 + 64 * (a.1 : Int)) + 1 + b.1) = true ∧ tagC (256 * (31 + 64 * (a.1 : Int)) + 1 + b.1) = false) ∧ (tagV (256 * (31 + 64 * (a.1 : Int)) + 1 + b.1 + 8192) = true ∧ tagC (256 * (31 + 64 * (a.1 : Int)) + 1 + b.1 + 8192) = true) := by decide +kernel
  exact h ⟨a, by omega⟩ ⟨b, by omega⟩
theorem tag_short {a b : Nat} (ha : (a : Int) < 30) (hb : (b : Int) < 4) : (tagV (1 + (a : Int) + 64 * b) = true ∧ tagC (1 + (a : Int) + 64 * b) = false) ∧ (tagV (1 + (a : Int) + 64 * b + 32) = true ∧ tagC (1 + (a : Int) + 64 * b + 32) = true) := by
  have h : ∀ a : Fin 30, ∀ b : Fin 4, (tagV (1 + (a.1 : Int) + 64 * b.1) = true ∧ tagC (1 + (a.1 : Int) + 64 * b.1) = false) ∧ (tagV (1 + (a.1 : Int) + 64 * b.1 + 32) = true ∧ tagC (1 + (a.1 : Int) + 64 * b.1 + 32) = true) := by decide +kernel
  exact h ⟨a, by omega⟩ ⟨b, by omega⟩
theorem val_byte {z : Int} (h0 : 0 ≤ z) (h1 : z ≤ 255) : Value.int .u8 z = U8 (ofI z) := by rw [← val_mod, Int.emod_eq_of_lt h0 (by omega)]
theorem wpList_push1s {ops : Array Oper} {rest : List Oper} {o : Oper} {a : Act} {w : World} {Q : Exit → Act → World → Prop} (hgd : o.guard = none) (s x : Operand)
    (ho : o.op = .call { callee := .builtin .append, args := #[s, x], argTypes := #[23, 23] })
    (base : Nat) (v : Value) (l : List UInt8) (hs : a.eval s = v) (hown : OwnB w base v l) (z : Int) (h0 : 0 ≤ z) (h1 : z ≤ 255) (t : TypeId) (g : Nat) (hx : a.eval x = .slice (some ⟨g, 0, none⟩) 1 1) (hg : g = w.heap.size)
    (hb : l.length + 1 ≤ 140737488355328) (hbase : base ≤ w.heap.size)
    (h : ∀ v' w', Grew w w' base v v' (l ++ [ofI z]) → wpList Tryd.prog ops Q rest (a.put o.dst v') w') : wpList Tryd.prog ops Q (o :: rest) a (w.alloc (.cells #[.int .u8 z] t)) := by
  rw [val_byte h0 h1]
  exact wpList_push1 hgd s x ho base v l hs hown (ofI z) t g hx hg hb hbase h
/-- Inside a call: a row of bytes of its own, and the dice, older than it. -/
def DRow (B : Nat) (w wi : World) (p n : Nat) (o : Value) (l : List UInt8) : Prop := OwnB wi w.heap.size o l ∧ DiePost B w p n wi ∧ B ≤ w.heap.size
theorem DRow.start {B : Nat} {w : World} {p n : Nat} (h : Die B w p n) : DRow B w w p n (.slice none 0 0) [] := ⟨OwnB.nil _ _, ⟨h, World.grownBy.refl _ _⟩, h.le⟩
theorem ownsRow_only {wi wj : World} {base e size n p : Nat} {o : Value} {xs : List Value} (h : wi.ownsRow base e size o n xs) (hp : p < base) (hg : wi.grownBy wj (some p)) : wj.ownsRow base e size o n xs :=
  World.ownsRow.kept h hg (by
    rcases e : o.ownBlock with _ | b
    · exact .inl rfl
    · refine .inr fun e2 => ?_
      have := (h.lt b e).1
      injection e2 with e2
      omega)
theorem DRow.call {B : Nat} {w wi wj : World} {p n : Nat} {o : Value} {l : List UInt8} (h : DRow B w wi p n o l) (hd : DiePost B wi p n wj) : DRow B w wj p n o l :=
  ⟨ownsRow_only h.1 (Nat.lt_of_lt_of_le hd.1.lt h.2.2) hd.2, h.2.1.trans hd, h.2.2⟩
/-- What turns nothing below w but the dice. -/
theorem only_row {w wi wj : World} {p : Nat} {row : Option Nat} (h : w.grownBy wi (some p)) (hg : wi.grownBy wj row) (hr : ∀ b, row = some b → w.heap.size ≤ b) : w.grownBy wj (some p) :=
  ⟨hg.os.trans h.os, hg.tape.trans h.tape, hg.output.trans h.output, Nat.le_trans h.size hg.size, fun k hk hne => (hg.block k (Nat.lt_of_lt_of_le hk h.size) (fun e => by have := hr k e.symm; omega)).trans (h.block k hk hne)⟩
theorem DRow.grew {B : Nat} {w wi wj : World} {p n : Nat} {o o' : Value} {l l' : List UInt8} (h : DRow B w wi p n o l) (g : Grew wi wj w.heap.size o o' l') : DRow B w wj p n o' l' := by
  obtain ⟨h1, ⟨h2, h3⟩, h4⟩ := h
  obtain ⟨g1, g2, g3, g4⟩ := g
  exact ⟨g1, ⟨h2.below (g2.mono h4), only_row h3 g3 fun b e => (h1.lt b e).1⟩, h4⟩
theorem DRow.alloc {B : Nat} {w wi : World} {p n : Nat} {o : Value} {l : List UInt8} (h : DRow B w wi p n o l) (x : Obj) : DRow B w (wi.alloc x) p n o l :=
  ⟨h.1.alloc x, ⟨h.2.1.1.alloc x, only_alloc h.2.1.2 x⟩, h.2.2⟩
theorem DRow.own {B : Nat} {w wi : World} {p n : Nat} {o : Value} {l : List UInt8} (h : DRow B w wi p n o l) : OwnB wi w.heap.size o l := h.1
theorem DRow.die {B : Nat} {w wi : World} {p n : Nat} {o : Value} {l : List UInt8} (h : DRow B w wi p n o l) : Die B wi p n := h.2.1.1
theorem DRow.size {B : Nat} {w wi : World} {p n : Nat} {o : Value} {l : List UInt8} (h : DRow B w wi p n o l) : w.heap.size ≤ wi.heap.size := h.2.1.2.size
set_option maxRecDepth 100000 in
set_option maxHeartbeats 1000000 in
theorem dbytes_any (B p n : Nat) (m : Int) (w : World) (h : Die B w p n) (hm0 : 0 ≤ m) (hm : m ≤ 100000) :
    Calls Tryd.prog 18 #[.pointer (some ⟨p, 0, none⟩), .int .i64 m] w fun e w' => ∃ v l, e = .returned v ∧ BsS w' (New w w') v l ∧ (l.length : Int) ≤ m ∧ DiePost B w p n w' := by
  have H0 := Lib.hid (DRow.start h)
  clear h
  go_enter Tryd.func18, Tryd.ntmps18
  go_wp2_with (go_at_call 16; refine (next_any B p n _ _ H0.out.die (by omega) (by omega)).mono ?_; rintro e w1 ⟨z0, rfl, hz0, hd⟩; have H1 := Lib.hid (H0.out.call hd); clear hd)
  go_loopg [5, 6] z0 (fun q o i wr => ∃ l : List UInt8, l.length + q = z0 ∧ i = .int .i64 q ∧ DRow B w wr p n o l)
  case atStart => exact ⟨[], by simp, rfl, H1.out⟩
  case round =>
    obtain ⟨l, hl, rfl, hR⟩ := hrel
    obtain ⟨oa, oc, rfl⟩ := hR.own.form
    have HR := Lib.hid hR
    clear hR
    by_cases hq : gk = 0
    · subst hq
      go_wp2_with fail
      go_ret
      exact ⟨_, l, rfl, HR.out.own.out (by omega) w (Nat.le_refl _), by omega, HR.out.2.1⟩
    · have hq1 : 0 < gk := by omega
      clear hq
      go_wp2_with (first
        | (at_builtin; (with_reducible refine wpList_push1s rfl (.tmp 15) (.tmp 19) rfl w.heap.size (.slice oa l.length oc) l rfl HR2.out.own (z : Int) (by omega) (by omega) _ w2.heap.size rfl rfl (by omega) HR2.out.size ?_); intro v3 w3 hgr; have H3 := Lib.hid (HR2.out.grew hgr); clear hgr)
        | (go_at_call 16; refine (next_any B p n _ _ HR.out.die (by decide) (by decide)).mono ?_; rintro e w2 ⟨z, rfl, hz, hd⟩; have HR2 := Lib.hid (HR.out.call hd); clear hd))
      go_roundg (gk - 1)
      case measure => omega
      case rel => exact ⟨_, by simp; omega, by go_num, H3.out⟩
end Go.Proofs.YtjbmmdcnccclaaaDoor
