/- made.Mod. -/
import Derived.Test.YtdpiehhblflacaaDoorTlv1
import Derived.Test.YtdpiehhblflacaaDoorQTlv3
import Derived.Test.YtdpiehhblflacaaDoorAppB
import Derived.Test.YtdpiehhblflacaaDoorQTlv5
import Derived.Test.YtdpiehhblflacaaDoorQTlvK
import Derived.Laws.IdiomCopy
import Derived.Deep.RegionWith
import Derived.Deep.RegionLaw
namespace Go.Proofs.YtdpiehhblflacaaDoor
open Go.RowKit Go.Deep

theorem mod_any (n m : Int) (hn : I64in n) (hm : 0 < m) (hm2 : m ≤ 9223372036854775807) (w : World) : Calls Tryd.prog 24 #[.int .i64 n, .int .i64 m] w fun e w' => e = .returned (.int .i64 (n % m)) ∧ w' = w := by
  obtain ⟨h1, h2⟩ := hn
  have hz : m ≠ 0 := by omega
  have a1 : Int.tmod n m < m := Int.tmod_lt_of_pos n hm
  have a2 : -m < Int.tmod n m := by
    have := Int.lt_tmod_of_pos n hm
    omega
  obtain ⟨q, hq⟩ : ∃ q, Int.tmod n m = q := ⟨_, rfl⟩
  rw [hq] at a1 a2
  have e : n % m = if q < 0 then q + m else q := by
    have h := Int.tmod_add_mul_tdiv n m
    rw [hq] at h
    split
    · have := Int.emod_eq_of_lt (a := q + m) (b := m) (by omega) (by omega)
      rw [← this, ← h, Int.add_mul_emod_self_left, ← Int.add_emod_right]
    · have := Int.emod_eq_of_lt (a := q) (b := m) (by omega) (by omega)
      rw [← h, Int.add_mul_emod_self_left, this]
  have E := Lib.hid e
  by_cases hneg : q < 0
  · rw [if_pos hneg] at e
    have E := Lib.hid e
    clear e
    go_enter Tryd.func24, Tryd.ntmps24
    go_wp2_with fail
    go_ret
    rw [E.out]
    exact ⟨rfl, rfl⟩
  · rw [if_neg hneg] at e
    have E := Lib.hid e
    clear e
    go_enter Tryd.func24, Tryd.ntmps24
    go_wp2_with fail
    go_ret
    rw [E.out]
    exact ⟨rfl, rfl⟩
end Go.Proofs.YtdpiehhblflacaaDoor
/- made.Dice: what it is that a pointer points at dice, and Next, One. -/
namespace Go.Proofs.YtdpiehhblflacaaDoor
open Go.RowKit Go.Deep

/-- A slice of n numbers. -/
def IntsS (w : World) (S : Nat → Prop) (v : Value) (n : Nat) : Prop :=
  ∃ a c, v = .slice a n c ∧ n ≤ c ∧ c ≤ 9223372036854775807 ∧ n ≤ 1000000000000000000 ∧
    (0 < n → ∃ b off, a = some ⟨b, off, none⟩ ∧ S b ∧ b < w.heap.size ∧ ∀ j, j < n → ∃ z, I64in z ∧ w.cell? ⟨b, off + j, none⟩ = some (.int .i64 z))
theorem IntsS.keep {w w' : World} {S S' : Nat → Prop} {v : Value} {n : Nat} (h : IntsS w S v n) (hk : ∀ b, S b → b < w.heap.size → w'.heap[b]? = w.heap[b]? ∧ S' b) : IntsS w' S' v n := by
  obtain ⟨a, c, e, h1, h2, h3, h4⟩ := h
  refine ⟨a, c, e, h1, h2, h3, fun h0 => ?_⟩
  obtain ⟨b, off, ea, hb, hl, hr⟩ := h4 h0
  refine ⟨b, off, ea, (hk b hb hl).2, lt_of_same (hk b hb hl).1 hl, fun j hj => ?_⟩
  obtain ⟨z, hz, hc⟩ := hr j hj
  exact ⟨z, hz, (by simp [World.cell?, (hk b hb hl).1] : w'.cell? ⟨b, off + j, none⟩ = w.cell? ⟨b, off + j, none⟩).trans hc⟩
theorem IntsS.form {w : World} {S : Nat → Prop} {v : Value} {n : Nat} (h : IntsS w S v n) : ∃ a c, v = .slice a n c := by
  obtain ⟨a, c, e, _⟩ := h; exact ⟨a, c, e⟩
/-- Dice of n numbers in block p, all below block B. -/
def Die (B : Nat) (w : World) (p n : Nat) : Prop :=
  ∃ v at_, at_ ≤ n ∧ w.heap[p]? = some (.cells #[v, .int .i64 (at_ : Nat)] 65 (0, 0)) ∧ IntsS w (fun b => b ≠ p ∧ b < B) v n ∧ p < B ∧ B ≤ w.heap.size
theorem Die.lt {B : Nat} {w : World} {p n : Nat} (h : Die B w p n) : p < B := by obtain ⟨_, _, _, _, _, h, _⟩ := h; exact h
theorem Die.le {B : Nat} {w : World} {p n : Nat} (h : Die B w p n) : B ≤ w.heap.size := by obtain ⟨_, _, _, _, _, _, h⟩ := h; exact h
theorem Die.keep {B : Nat} {w w' : World} {p n : Nat} (h : Die B w p n) (hs : w.heap.size ≤ w'.heap.size) (hk : ∀ b, b < B → w'.heap[b]? = w.heap[b]?) : Die B w' p n := by
  obtain ⟨v, a, h1, h2, h3, h4, h5⟩ := h
  exact ⟨v, a, h1, (hk p h4).trans h2, h3.keep fun b hs _ => ⟨hk b hs.2, hs⟩, h4, Nat.le_trans h5 hs⟩
theorem Die.below {B : Nat} {w w' : World} {p n : Nat} (h : Die B w p n) (hb : Below B w w') : Die B w' p n := h.keep hb.size hb.block
theorem Die.alloc {B : Nat} {w : World} {p n : Nat} (h : Die B w p n) (o : Obj) : Die B (w.alloc o) p n := h.keep (by simp) fun b hl => Below.heap_alloc _ _ _ (Nat.lt_of_lt_of_le hl h.le)
theorem two {w : World} {X : Nat} {a b : Value} {t : TypeId} (h : w.heap[X]? = some (.cells #[a, b] t (0, 0))) : w.cell? ⟨X, 0, none⟩ = some a ∧ w.cell? ⟨X, 1, none⟩ = some b ∧ ∀ o, w.frozen? ⟨X, o, none⟩ = false := by
  refine ⟨?_, ?_, fun o => by simp [World.frozen?, h]⟩ <;> (rw [cell_of_row _ _ _ _ _ _ h]; rfl)
theorem two_set1 {w : World} {p : Nat} {a b u : Value} {t : TypeId} (h : w.heap[p]? = some (.cells #[a, b] t (0, 0))) : (w.setCell ⟨p, 1, none⟩ u).heap[p]? = some (.cells #[a, u] t (0, 0)) := by
  show (w.heap.modify p _)[p]? = _
  rw [Array.getElem?_modify, if_pos rfl, h]
  rfl
/-- What a call leaves of the dice. -/
def DiePost (B : Nat) (w : World) (p n : Nat) (w' : World) : Prop := Die B w' p n ∧ w.grownBy w' (some p)
theorem DiePost.trans {B : Nat} {w w1 w2 : World} {p n : Nat} (h1 : DiePost B w p n w1) (h2 : DiePost B w1 p n w2) : DiePost B w p n w2 := ⟨h2.1, only_trans h1.2 h2.2⟩
set_option maxRecDepth 100000 in
set_option maxHeartbeats 1000000 in
theorem next_any (B p n : Nat) (m : Int) (w : World) (h : Die B w p n) (hm : 0 < m) (hm2 : m ≤ 1000000000000) :
    Calls Tryd.prog 41 #[.pointer (some ⟨p, 0, none⟩), .int .i64 m] w fun e w' => ∃ z : Nat, e = .returned (.int .i64 z) ∧ (z : Int) < m ∧ DiePost B w p n w' := by
  have hD := Lib.hid h
  obtain ⟨v, k, hk, hp, ⟨a, c, rfl, hnc, hc9, hn9, hcells⟩, hpB, hBs⟩ := h
  obtain ⟨c0, c1, cf⟩ := two hp
  have f1 := cf 1
  have HP := Lib.hid hp
  clear hp cf
  by_cases hkn : k = n
  · subst hkn
    clear hcells
    go_enter Tryd.func41, Tryd.ntmps41
    go_wp2_with fail
    go_quiet (fail)
    go_wp2_with fail
    go_ret
    exact ⟨0, rfl, hm, hD.out.keep (Nat.le_refl _) fun b hl => rfl, only_drewN (World.grownBy.refl _ _) _⟩
  · have hkl : k < n := by omega
    obtain ⟨b, off, rfl, hbp, hbl, hz⟩ := hcells (by omega)
    obtain ⟨z, hz1, hz2⟩ := hz k hkl
    have Hz := Lib.hid hz
    have hkk : (k : Int) < n := by omega
    have hpl : p < w.heap.size := Nat.lt_of_lt_of_le hpB hBs
    have M := Lib.hid (fun w => mod_any z m hz1 hm (by omega) w)
    have hz0 : 0 ≤ z % m := Int.emod_nonneg _ (by omega)
    have hz3 : z % m < m := Int.emod_lt_of_pos _ hm
    obtain ⟨r, hr⟩ : ∃ r : Nat, Hid (z % m = r) := ⟨(z % m).toNat, by show _ = _; omega⟩
    rw [hr.out] at M hz3
    clear hkn hcells hz hz0 hz1
    go_enter Tryd.func41, Tryd.ntmps41
    go_wp2_with fail
    go_quiet (fail)
    go_wp2_with fail
    go_quiet ((go_at_call 24; exact Calls.quiet_of_same (M.out _)))
    go_wp2_with fail
    go_ret
    obtain ⟨v', k', hk', hp', hI, _, _⟩ := hD.out
    have e := HP.out.symm.trans hp'
    have hI2 : IntsS w (fun b => b ≠ p ∧ b < B) (.slice (some ⟨b, off, none⟩) n c) n := by
      injection e with e; injection e with e1 _ _; injection e1 with e1; injection e1 with e1 _; rw [e1]; exact hI
    exact ⟨r, rfl, hz3, ⟨_, k + 1, by omega, two_set1 HP.out, hI2.keep fun b' hs hb => ⟨Below.heap_setCell _ _ _ _ hs.1, hs⟩, hpB, by simpa [World.setCell] using hBs⟩, only_drewN (only_setCell (only_drewN (World.grownBy.refl _ _) _) (.inl rfl) _) _⟩
/-- One. -/
theorem one_any (B p n : Nat) (m : Int) (w : World) (h : Die B w p n) (hm : 0 < m) (hm2 : m ≤ 1000000000000) :
    Calls Tryd.prog 20 #[.pointer (some ⟨p, 0, none⟩), .int .i64 m] w fun e w' => ∃ b : Bool, e = .returned (.bool b) ∧ DiePost B w p n w' := by
  have N := Lib.hid (next_any B p n m w h hm hm2)
  clear h
  go_enter Tryd.func20, Tryd.ntmps20
  go_wp2_with (go_at_call 41; refine N.out.mono ?_; rintro e w1 ⟨z, rfl, hz, hd⟩; have HD := Lib.hid hd; clear hd)
  go_ret
  exact ⟨_, rfl, HD.out⟩
theorem light_any (S : Nat → Prop) (v : Value) (n : Nat) (w : World) (h : IntsS w S v n) : Calls Tryd.prog 17 #[v] w fun e w' => e = .returned (.bool (decide ((n : Int) ≤ 400))) ∧ w' = w := by
  obtain ⟨a, c, rfl⟩ := h.form
  clear h
  go_enter Tryd.func17, Tryd.ntmps17
  go_wp2_with fail
  go_ret
  exact ⟨rfl, rfl⟩
theorem roll_any (v : Value) (n : Nat) (w : World) (h : IntsS w (· < w.heap.size) v n) : Calls Tryd.prog 18 #[v] w fun e w' => e = .returned (.pointer (some ⟨w.heap.size, 0, none⟩)) ∧ Die (w.heap.size + 1) w' w.heap.size n ∧ Below w.heap.size w w' := by
  obtain ⟨a, c, rfl⟩ := h.form
  have H := Lib.hid h
  clear h
  go_enter Tryd.func18, Tryd.ntmps18
  go_wp2_with fail
  go_ret
  exact ⟨rfl, ⟨_, 0, by omega, heap_alloc_new _ _, H.out.keep fun b hs hb => ⟨Below.heap_alloc _ _ _ hb, by omega, by omega⟩, Nat.lt_succ_self _, by simp⟩, (Below.refl _ _).alloc (Nat.le_refl _) _⟩
end Go.Proofs.YtdpiehhblflacaaDoor
/- made.Dice: Tag and Bytes. -/
namespace Go.Proofs.YtdpiehhblflacaaDoor
open Go.RowKit Go.Deep

theorem tag_long {a b : Nat} (ha : (a : Int) < 4) (hb : (b : Int) < 127) : (tagV (256 * (31 + 64 * (a : Int)) + 1 + b) = true ∧ tagC (256 * (31 + 64 * (a : Int)) + 1 + b) = false) ∧ (tagV (256 * (31 + 64 * (a : Int)) + 1 + b + 8192) = true ∧ tagC (256 * (31 + 64 * (a : Int)) + 1 + b + 8192) = true) := by
  have h : ∀ a : Fin 4, ∀ b : Fin 127, (tagV (256 * (31 + 64 * (a.1 : Int)) + 1 + b.1) = true ∧ tagC (256 * (31 + 64 * (a.1 : Int)) + 1 + b.1) = false) ∧ (tagV (256 * (31 + 64 * (a.1 : Int)) + 1 + b.1 + 8192) = true ∧ tagC (256 * (31 + 64 * (a.1 : Int)) + 1 + b.1 + 8192) = true) := by decide +kernel
  exact h ⟨a, by omega⟩ ⟨b, by omega⟩
theorem tag_short {a b : Nat} (ha : (a : Int) < 30) (hb : (b : Int) < 4) : (tagV (1 + (a : Int) + 64 * b) = true ∧ tagC (1 + (a : Int) + 64 * b) = false) ∧ (tagV (1 + (a : Int) + 64 * b + 32) = true ∧ tagC (1 + (a : Int) + 64 * b + 32) = true) := by
  have h : ∀ a : Fin 30, ∀ b : Fin 4, (tagV (1 + (a.1 : Int) + 64 * b.1) = true ∧ tagC (1 + (a.1 : Int) + 64 * b.1) = false) ∧ (tagV (1 + (a.1 : Int) + 64 * b.1 + 32) = true ∧ tagC (1 + (a.1 : Int) + 64 * b.1 + 32) = true) := by decide +kernel
  exact h ⟨a, by omega⟩ ⟨b, by omega⟩
theorem val_byte {z : Int} (h0 : 0 ≤ z) (h1 : z ≤ 255) : Value.int .u8 z = U8 (ofI z) := by rw [← val_mod, Int.emod_eq_of_lt h0 (by omega)]
theorem wpList_push1s {ops : Array Oper} {rest : List Oper} {o : Oper} {a : Act} {w : World} {Q : Exit → Act → World → Prop} (hgd : o.guard = none) (s x : Operand)
    (ho : o.op = .call { callee := .builtin .append, args := #[s, x], argTypes := #[23, 23] })
    (base : Nat) (v : Value) (l : List UInt8) (hs : a.eval s = v) (hown : OwnB w base v l) (z : Int) (h0 : 0 ≤ z) (h1 : z ≤ 255) (t : TypeId) (g : Nat) (hx : a.eval x = .slice (some ⟨g, 0, none⟩) 1 1) (hg : g = w.heap.size)
    (hb : l.length + 1 ≤ 140737488355328) (hbase : base ≤ w.heap.size)
    (h : ∀ v' w', Grew w w' base v v' (l ++ [ofI z]) → wpList Tryd.prog ops Q rest (a.put o.dst v') w') : wpList Tryd.prog ops Q (o :: rest) a (w.alloc (.cells #[.int .u8 z] t)) := by
  rw [val_byte h0 h1]
  exact wpList_push1 hgd s x ho base v l hs hown (ofI z) t g hx hg hb hbase h
/-- Inside a call: a row of bytes of its own, and the dice, older than it. -/
def DRow (B : Nat) (w wi : World) (p n : Nat) (o : Value) (l : List UInt8) : Prop := OwnB wi w.heap.size o l ∧ DiePost B w p n wi ∧ B ≤ w.heap.size
theorem DRow.start {B : Nat} {w : World} {p n : Nat} (h : Die B w p n) : DRow B w w p n (.slice none 0 0) [] := ⟨OwnB.nil _ _, ⟨h, World.grownBy.refl _ _⟩, h.le⟩
theorem ownsRow_only {wi wj : World} {base e size n p : Nat} {o : Value} {xs : List Value} (h : wi.ownsRow base e size o n xs) (hp : p < base) (hg : wi.grownBy wj (some p)) : wj.ownsRow base e size o n xs :=
  World.ownsRow.kept h hg (by
    rcases e : o.ownBlock with _ | b
    · exact .inl rfl
    · refine .inr fun e2 => ?_
      have := (h.lt b e).1
      injection e2 with e2
      omega)
theorem DRow.call {B : Nat} {w wi wj : World} {p n : Nat} {o : Value} {l : List UInt8} (h : DRow B w wi p n o l) (hd : DiePost B wi p n wj) : DRow B w wj p n o l :=
  ⟨ownsRow_only h.1 (Nat.lt_of_lt_of_le hd.1.lt h.2.2) hd.2, h.2.1.trans hd, h.2.2⟩
/-- What turns nothing below w but the dice. -/
theorem only_row {w wi wj : World} {p : Nat} {row : Option Nat} (h : w.grownBy wi (some p)) (hg : wi.grownBy wj row) (hr : ∀ b, row = some b → w.heap.size ≤ b) : w.grownBy wj (some p) :=
  ⟨hg.os.trans h.os, hg.tape.trans h.tape, hg.output.trans h.output, Nat.le_trans h.size hg.size, fun k hk hne => (hg.block k (Nat.lt_of_lt_of_le hk h.size) (fun e => by have := hr k e.symm; omega)).trans (h.block k hk hne)⟩
theorem DRow.grew {B : Nat} {w wi wj : World} {p n : Nat} {o o' : Value} {l l' : List UInt8} (h : DRow B w wi p n o l) (g : Grew wi wj w.heap.size o o' l') : DRow B w wj p n o' l' := by
  obtain ⟨h1, ⟨h2, h3⟩, h4⟩ := h
  obtain ⟨g1, g2, g3, g4⟩ := g
  exact ⟨g1, ⟨h2.below (g2.mono h4), only_row h3 g3 fun b e => (h1.lt b e).1⟩, h4⟩
theorem DRow.alloc {B : Nat} {w wi : World} {p n : Nat} {o : Value} {l : List UInt8} (h : DRow B w wi p n o l) (x : Obj) : DRow B w (wi.alloc x) p n o l :=
  ⟨h.1.alloc x, ⟨h.2.1.1.alloc x, only_alloc h.2.1.2 x⟩, h.2.2⟩
theorem DRow.own {B : Nat} {w wi : World} {p n : Nat} {o : Value} {l : List UInt8} (h : DRow B w wi p n o l) : OwnB wi w.heap.size o l := h.1
theorem DRow.die {B : Nat} {w wi : World} {p n : Nat} {o : Value} {l : List UInt8} (h : DRow B w wi p n o l) : Die B wi p n := h.2.1.1
theorem DRow.size {B : Nat} {w wi : World} {p n : Nat} {o : Value} {l : List UInt8} (h : DRow B w wi p n o l) : w.heap.size ≤ wi.heap.size := h.2.1.2.size
end Go.Proofs.YtdpiehhblflacaaDoor
/- made.Dice: Spoil. -/
namespace Go.Proofs.YtdpiehhblflacaaDoor
open Go.RowKit Go.Deep

/-- An own row of bytes, cell by cell. -/
theorem OwnB.slot {w : World} {base : Nat} {A : Option Addr} {c : Nat} {l : List UInt8} (h : OwnB w base (.slice A l.length c) l) (hl : 0 < l.length) :
    ∃ g, A = some ⟨g, 0, none⟩ ∧ base ≤ g ∧ g < w.heap.size ∧ l.length ≤ c ∧ c ≤ 9223372036854775807 ∧ (∀ j, j < l.length → w.cell? ⟨g, j, none⟩ = some (U8 (gb l j))) ∧ ∀ j, w.frozen? ⟨g, j, none⟩ = false := by
  have hc := fun g => World.ownsRow.cells h (g := g)
  rcases h.2 with ⟨e, h0⟩ | ⟨g, cap, cur, hv, hb, hh, hn, hm, r⟩
  · omega
  · injection hv with e1 _ e3
    subst e1 e3
    refine ⟨g, rfl, hb, (Array.getElem?_eq_some_iff.1 hh).1, hn, hm, fun j hj => ?_, fun j => by simp [World.frozen?, hh]⟩
    have := hc g rfl j (U8 (gb l j)) (mapU8_get l j hj)
    have e : (⟨g, 0, none⟩ : Addr).add j = ⟨g, 0 + j, none⟩ := by unfold Addr.add; split <;> simp_all
    rwa [e, Nat.zero_add] at this
/-- One byte of a slice is turned. -/
theorem BsS.set {w : World} {S : Nat → Prop} {g c k : Nat} {l : List UInt8} (h : BsS w S (.slice (some ⟨g, 0, none⟩) l.length c) l) (hk : k < l.length) (u : UInt8) : BsS (w.setCell ⟨g, k, none⟩ (U8 u)) S (.slice (some ⟨g, 0, none⟩) l.length c) (l.set k u) := by
  obtain ⟨a, c', hv, h1, h2, h3, h4⟩ := h
  injection hv with e1 e2 e3
  subst e1 e3
  have hll : (l.set k u).length = l.length := by simp
  refine ⟨_, c, by rw [hll], by omega, h2, by omega, fun hp => ?_⟩
  rw [hll] at hp
  obtain ⟨b, off, ha, hb, hc⟩ := h4 hp
  injection ha with ha
  injection ha with ha1 ha2
  subst ha1 ha2
  refine ⟨g, 0, rfl, hb, fun j hj => ?_⟩
  rw [hll] at hj
  by_cases e : j = k
  · subst e
    rw [Nat.zero_add]
    have := hc j hj
    rw [Nat.zero_add] at this
    rw [World.cell?_setCell_same (h := this)]
    congr 2
    unfold gb
    simp [hj]
  · rw [World.cell?_setCell_other (h := by intro h; injection h with _ h; omega), hc j hj]
    congr 2
    unfold gb
    simp [show ¬ k = j by omega]
/-- What a number of a byte's size is. -/
theorem byte_of {x : Int} (h0 : 0 ≤ x) (h1 : x < 256) : ∃ u : UInt8, Value.int .u8 x = U8 u := ⟨ofI x, by rw [← val_mod, Int.emod_eq_of_lt h0 h1]⟩
def SpoilOut (B : Nat) (w : World) (p n : Nat) (l : List UInt8) (e : Ending) (w' : World) : Prop := ∃ v' l', e = .returned v' ∧ BsS w' (New w w') v' l' ∧ l'.length ≤ l.length + 1 ∧ DiePost B w p n w'
/-- Behind a store into the own row. -/
theorem spoil_set {B : Nat} {w wi : World} {p n g c k : Nat} {l : List UInt8} (h : DRow B w wi p n (.slice (some ⟨g, 0, none⟩) l.length c) l) (hl : l.length ≤ 1000000000) (hk : k < l.length) {x : Int} (h0 : 0 ≤ x) (h1 : x < 256) :
    SpoilOut B w p n l (.returned (.slice (some ⟨g, 0, none⟩) l.length c)) (wi.setCell ⟨g, k, none⟩ (.int .u8 x)) := by
  obtain ⟨u, hu⟩ := byte_of h0 h1
  rw [hu]
  have hg := (h.own.lt g rfl)
  have hb := h.own.out (by omega) w (Nat.le_refl _)
  have hB := h.2.2
  refine ⟨_, l.set k u, rfl, (hb.set hk u).keep fun b hs _ => ⟨rfl, hs.1, by simpa [World.setCell] using hs.2⟩, by simp, h.die.keep (by simp [World.setCell]) fun b hb => Below.heap_setCell _ _ _ _ (by show b ≠ g; omega), ?_⟩
  have h2 := h.2.1.2
  exact ⟨h2.os, h2.tape, h2.output, by simpa [World.setCell] using h2.size, fun i hi hne => (Below.heap_setCell _ _ _ _ (by show i ≠ g; omega)).trans (h2.block i hi hne)⟩
theorem heap_setCells (g : Nat) : ∀ (vs : List Value) (o : Nat) (w : World), (w.setCells g o vs).heap.size = w.heap.size ∧ (w.setCells g o vs).os = w.os ∧ (w.setCells g o vs).tape = w.tape ∧ (w.setCells g o vs).output = w.output ∧ ∀ i, i ≠ g → (w.setCells g o vs).heap[i]? = w.heap[i]? := by
  intro vs
  induction vs with
  | nil => intro o w; exact ⟨rfl, rfl, rfl, rfl, fun _ _ => rfl⟩
  | cons v vs ih =>
    intro o w
    obtain ⟨h1, h2, h3, h4, h5⟩ := ih (o + 1) (w.setCell ⟨g, o, none⟩ v)
    exact ⟨h1.trans (by simp [World.setCell]), h2, h3, h4, fun i hi => (h5 i hi).trans (Below.heap_setCell _ _ _ _ hi)⟩
/-- Behind a cut of one byte in the own row. -/
theorem spoil_del {B : Nat} {w wi : World} {p n g c k : Nat} {l : List UInt8} (h : DRow B w wi p n (.slice (some ⟨g, 0, none⟩) l.length c) l) (hl : l.length ≤ 1000000000) (hk : k < l.length) (hc : l.length ≤ c) (sc : ∀ j, j < l.length → wi.cell? ⟨g, j, none⟩ = some (U8 (gb l j))) :
    SpoilOut B w p n l (.returned (.slice (some ⟨g, 0, none⟩) (k + (l.length - (k + 1))) c)) (wi.drew.setCells g (0 + k * 1) ((l.drop (k + 1)).map U8)) := by
  have hg := (h.own.lt g rfl)
  have hB := h.2.2
  obtain ⟨_, _, hv, _, hcm, _, _⟩ := h.own.out (by omega) w (Nat.le_refl _)
  injection hv with _ _ hv
  subst hv
  obtain ⟨e1, e2, e3, e4, e5⟩ := heap_setCells g ((l.drop (k + 1)).map U8) (0 + k * 1) wi.drew
  rw [Nat.zero_add, Nat.mul_one] at e1 e2 e3 e4 e5 ⊢
  have h2 := h.2.1.2
  have hln : (l.take k ++ l.drop (k + 1)).length = k + (l.length - (k + 1)) := by simp; omega
  refine ⟨_, l.take k ++ l.drop (k + 1), rfl, ⟨_, c, by rw [hln], by omega, hcm, by omega, fun _ => ⟨g, 0, rfl, ⟨hg.1, by rw [e1]; exact hg.2⟩, fun j hj => ?_⟩⟩, by omega, h.die.keep (by rw [e1]; exact Nat.le_refl _) fun b hb => e5 b (by omega), ⟨e2.trans h2.os, e3.trans h2.tape, e4.trans h2.output, by rw [e1]; exact h2.size, fun i hi hne => (e5 i (by omega)).trans (h2.block i hi hne)⟩⟩
  rw [hln] at hj
  rw [Nat.zero_add]
  by_cases hjk : j < k
  · rw [World.cell?_setCells_out g _ k wi.drew ⟨g, j, none⟩ (fun _ _ => .inl hjk)]
    refine (sc j (by omega)).trans ?_
    congr 2
    unfold gb
    have hlt : min k l.length = k := by omega
    simp [List.getElem?_append, hjk, hlt, show j < l.length by omega]
  · have hvl : j - k < ((l.drop (k + 1)).map U8).length := by simp; omega
    have := World.cell?_setCells_in g ((l.drop (k + 1)).map U8) k wi.drew (fun q hq => by
      have hq : q < l.length - (k + 1) := by simpa using hq
      show (wi.cell? _).isSome = true
      rw [sc (k + q) (by omega)]; rfl) (j - k) hvl
    rw [show k + (j - k) = j by omega] at this
    rw [this]
    congr 1
    simp only [List.getElem_map, List.getElem_drop]
    congr 1
    unfold gb
    have hlt : min k l.length = k := by omega
    simp [List.getElem?_append, hjk, hlt, show k + 1 + (j - k) < l.length by omega]
set_option maxRecDepth 100000 in
set_option maxHeartbeats 4000000 in
theorem spoil_any (B p n : Nat) (l : List UInt8) (v : Value) (w : World) (hv : BsS w (fun b => b < w.heap.size ∧ b ≠ p) v l) (hl : l.length ≤ 1000000000) (hd : Die B w p n) :
    Calls Tryd.prog 22 #[.pointer (some ⟨p, 0, none⟩), v] w (SpoilOut B w p n l) := by
  have H0 := Lib.hid (DRow.start hd)
  obtain ⟨va, vc, rfl⟩ := hv.form2
  have HV := Lib.hid hv
  clear hv hd
  rcases Nat.eq_zero_or_pos l.length with hl0 | hl0
  · have e : l = [] := List.eq_nil_of_length_eq_zero hl0
    subst e
    clear hl0
    go_enter Tryd.func22, Tryd.ntmps22
    go_wp2_with (first
      | (at_builtin; (with_reducible refine wpList_more rfl (.const (.slice none 0 0)) (.tmp 7) rfl w.heap.size (.slice none 0 0) [] rfl H0.out.own va ([] : List UInt8).length vc [] _ rfl HV.out (by simp) (Nat.le_refl _) ?_); intro v1 w1 hgr; have H1 := Lib.hid (H0.out.grew hgr); obtain ⟨a1, c1, rfl⟩ := H1.out.own.form; clear hgr)
      | (go_at_call 41; refine (next_any B p n _ _ H1.out.die (by decide) (by decide)).mono ?_; rintro e w2 ⟨z, rfl, hz, hd⟩; have H2 := Lib.hid (H1.out.call hd); clear hd))
    go_ret
    obtain ⟨u, hu⟩ := byte_of (x := (z : Int)) (by omega) (by omega)
    rw [hu]
    have hH := H2.out
    refine ⟨_, [u], rfl, (lit_new w2 [u] _ (by simp) _ rfl).keep fun b hs _ => ⟨rfl, by have := hs.1; have := hH.size; omega, hs.2⟩, by simp, (hH.alloc _).2.1⟩
  · have HX := Lib.hid hl
    go_enter Tryd.func22, Tryd.ntmps22
    go_upto_region 7 with (first
      | (at_builtin; (with_reducible refine wpList_more rfl (.const (.slice none 0 0)) (.tmp 7) rfl w.heap.size (.slice none 0 0) [] rfl H0.out.own va l.length vc l _ rfl HV.out (by simp; omega) (Nat.le_refl _) ?_); intro v1 w1 hgr; rw [List.nil_append] at hgr; have H1 := Lib.hid (H0.out.grew hgr); obtain ⟨a1, c1, rfl⟩ := H1.out.own.form; clear hgr)
      | (go_at_call 41; refine (next_any B p n _ _ H2.out.die (by decide) (by decide)).mono ?_; rintro e w3 ⟨q, rfl, hq, hd⟩; have H3 := Lib.hid (H2.out.call hd); clear hd)
      | (go_at_call 41; refine (next_any B p n _ _ H1.out.die (by omega) (by omega)).mono ?_; rintro e w2 ⟨k, rfl, hk, hd⟩; have H2 := Lib.hid (H1.out.call hd); clear hd))
    have hkl : k < l.length := by omega
    obtain ⟨g, rfl, hg1, hg2, hg3, hg4, sc, sf⟩ := H3.out.own.slot hl0
    have hpg : p ≠ g := by have := H3.out.die.lt; have := H3.out.2.2; omega
    have ck := sc k hkl; have fk := sf k
    have SC := Lib.hid sc; have SF := Lib.hid sf
    clear sc sf H0 HV
    obtain rfl | rfl | rfl | rfl : q = 0 ∨ q = 1 ∨ q = 2 ∨ q = 3 := by omega
    · have ih5 := Lib.hid (fun (w4 : World) (h : DRow B w w4 p n (.slice (some ⟨g, 0, none⟩) l.length c1) l) => h.own.slot hl0)
      go_wp2_with (go_at_call 41; refine (next_any B p n _ _ H3.out.die (by decide) (by decide)).mono ?_; rintro e w4 ⟨z, rfl, hz, hd⟩; have H4 := Lib.hid (H3.out.call hd); obtain ⟨g', e1, _, _, _, _, sc, sf⟩ := ih5.out w4 H4.out; obtain rfl : g = g' := (by injection e1 with e1; injection e1); have c4 := sc k hkl; have f4 := sf k; clear hd e1 sc sf)
      go_ret
      exact spoil_set H4.out HX.out hkl (by omega) (by omega)
    · have D4 : Hid (Die B w3.drew p n) := (show Die B w3.drew p n from H3.out.die)
      have ih5 := Lib.hid (fun (w4 : World) (h : DRow B w w4 p n (.slice (some ⟨g, 0, none⟩) l.length c1) l) => h.own.slot hl0)
      go_upto_region 10 with fail
      go_region_with (go_at_call 41; refine (next_any B p n _ _ D4.out (by decide) (by decide)).mono ?_; rintro e w4 ⟨z, rfl, hz, hd⟩; have H4 := Lib.hid (H3.out.call (show DiePost B w3 p n w4 from ⟨hd.1, ⟨hd.2.os, hd.2.tape, hd.2.output, hd.2.size, hd.2.block⟩⟩)); obtain ⟨g', e1, _, _, _, _, sc, sf⟩ := ih5.out w4 H4.out; obtain rfl : g = g' := (by injection e1 with e1; injection e1); have c4 := sc k hkl; have f4 := sf k; clear hd e1 sc sf)
      all_goals go_wp2_with fail
      all_goals go_ret
      all_goals exact spoil_set H4.out HX.out hkl (bv_nn _) (bv_lt _)
    · obtain ⟨A, hA, hnews⟩ : ∃ A : Addr, (if c1 = k + 1 then some (⟨g, 0, none⟩ : Addr) else some ⟨g, k + 1, none⟩) = some A ∧ Hid (∀ j u, ((l.drop (k + 1)).map U8)[j]? = some u → w3.drew.cell? (A.add j) = some u) := by
        by_cases h : c1 = k + 1
        · refine ⟨⟨g, 0, none⟩, by simp [h], fun j u hu => ?_⟩
          have h0 : ((l.drop (k + 1)).map U8) = [] := by rw [List.drop_eq_nil_of_le (by omega)]; rfl
          rw [h0] at hu
          simp at hu
        · refine ⟨⟨g, k + 1, none⟩, by simp [h], fun j u hu => ?_⟩
          have hj : j < l.length - (k + 1) := by
            have := (List.getElem?_eq_some_iff.1 hu).1
            simpa using this
          rw [mapU8_get _ j (by simpa using hj)] at hu
          injection hu with hu
          subst hu
          rw [Addr.add_lit, gb_drop]
          exact SC.out (k + 1 + j) (by omega)
      have s1 : Hid (((l.drop (k + 1)).map U8).length = (l.length - (k + 1)) * 1) := by show _ = _; simp
      have s2 : Hid (∀ u ∈ (l.drop (k + 1)).map U8, u.oneCell' = true) := by
        intro u hu
        obtain ⟨x, _, rfl⟩ := List.mem_map.1 hu
        rfl
      have s3 : Hid (∀ j, j < ((l.drop (k + 1)).map U8).length → (w3.drew.cell? ⟨g, 0 + k * 1 + j, none⟩).isSome = true ∧ w3.drew.frozen? ⟨g, 0 + k * 1 + j, none⟩ = false) := by
        intro j hj
        have hj : j < l.length - (k + 1) := by simpa using hj
        rw [Nat.zero_add, Nat.mul_one]
        exact ⟨by show (w3.cell? _).isSome = true; rw [SC.out (k + j) (by omega)]; rfl, SF.out (k + j)⟩
      have hic : k ≤ c1 := by omega
      have hwr : IntKind.i64.wrap ((k : Int) + 1) = (k : Int) + 1 := by rw [IntKind.wrap_i64]; omega
      have hp0 : (0 : Int) ≤ (k : Int) + 1 := by omega
      have hp1 : (k : Int) + 1 ≤ (l.length : Int) := by omega
      have hp2 : ((k : Int) + 1).toNat = k + 1 := by omega
      obtain ⟨i0, hinfo, hzz⟩ := Option.map_eq_some_iff.1 infoU8
      simp only [Prod.mk.injEq] at hzz
      obtain ⟨hz, hsize, hbb⟩ := hzz
      have HI := Lib.hid hinfo; have HZ := Lib.hid hsize
      clear hinfo hsize hz hbb ck fk
      go_upto_region 12 with fail
      go_region_law (refine step_append_room rfl (.tmp 52) (.tmp 56) 23 rfl 5 i0 1 Tryd.underlying23 HI.out HZ.out g 0 k c1 (by simp [Act.eval, Act.put]) A (l.length - (k + 1)) (c1 - (k + 1)) ((l.drop (k + 1)).map U8) (by simp [Act.eval, Act.put]) s1.out hnews.out s2.out (by omega) s3.out ?_)
      go_wp2_with fail
      go_ret
      have e := spoil_del H3.out HX.out hkl hg3 SC.out
      rw [Nat.zero_add, Nat.mul_one, List.map_drop] at e
      exact e
    · go_wp2_with (first
        | (at_builtin; (with_reducible refine wpList_push1s rfl (.tmp 22) (.tmp 26) rfl w.heap.size (.slice (some ⟨g, 0, none⟩) l.length c1) l rfl H4.out.own (z : Int) (by omega) (by omega) _ w4.heap.size rfl rfl (by omega) H4.out.size ?_); intro v5 w5 hgr; obtain ⟨l5, E5, k5⟩ := nameL (l ++ [ofI (z : Int)]) (l.length + 1) (by simp); rw [E5.out] at hgr; have H5 := Lib.hid (H4.out.grew hgr); obtain ⟨a5, c5, rfl⟩ := H5.out.own.form; clear hgr)
        | (go_at_call 41; refine (next_any B p n _ _ H3.out.die (by decide) (by decide)).mono ?_; rintro e w4 ⟨z, rfl, hz, hd⟩; have H4 := Lib.hid (H3.out.call hd); clear hd))
      go_ret
      exact ⟨_, l5, rfl, H5.out.own.out (by omega) w (Nat.le_refl _), by omega, H5.out.2.1⟩
end Go.Proofs.YtdpiehhblflacaaDoor
