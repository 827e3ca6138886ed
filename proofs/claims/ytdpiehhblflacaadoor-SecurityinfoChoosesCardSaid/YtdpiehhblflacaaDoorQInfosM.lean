/- Layer 14: an element that is made of any number is one. -/
import Derived.Test.YtdpiehhblflacaaDoorGrp
import Derived.Test.YtdpiehhblflacaaDoorQInfSame
import Derived.Test.YtdpiehhblflacaaDoorQSpoil
namespace Go.Proofs.YtdpiehhblflacaaDoor
open Go.RowKit Go.Deep

theorem pw_pow (n : Nat) : ∀ o x k, k < 2 ^ n → o < 2147483579 → pw n o x k = o * x ^ k % 2147483579 := by
  induction n with
  | zero =>
    intro o x k hk ho
    have : k = 0 := by simpa using hk
    subst this
    simp [pw, Nat.mod_eq_of_lt ho]
  | succ n ih =>
    intro o x k hk ho
    have hk2 : k / 2 < 2 ^ n := by rw [Nat.pow_succ] at hk; omega
    have hx : (x * x % 2147483579) ^ (k / 2) % 2147483579 = x ^ (2 * (k / 2)) % 2147483579 := by
      rw [← Nat.pow_mod, Nat.pow_mul]
      congr 2
      exact (Nat.pow_two x).symm
    have mm : ∀ a b : Nat, a * b % 2147483579 = a * (b % 2147483579) % 2147483579 := fun a b => by rw [Nat.mul_mod a b, Nat.mul_mod a (b % _), Nat.mod_mod]
    by_cases h : k % 2 = 1
    · rw [pw_odd _ _ _ _ h, ih _ _ _ hk2 (Nat.mod_lt _ (by decide)), mm, hx, ← mm]
      rw [Nat.mul_mod, Nat.mod_mod, ← Nat.mul_mod, Nat.mul_assoc, ← Nat.pow_succ']
      congr 3
      omega
    · rw [pw_even _ _ _ _ h, ih _ _ _ hk2 ho, mm, hx, ← mm]
      congr 3
      omega
theorem pw_one (x k : Nat) (h : k < 2 ^ 64) : pw 64 1 x k = x ^ k % 2147483579 := by rw [pw_pow 64 1 x k h (by decide), Nat.one_mul]
/-- No number from 2 on, up to so many, divides the order. -/
def bare : Nat → Bool
  | 0 => true
  | n + 1 => decide (n + 2 = 1) || (decide (¬ 1073741789 % (n + 2) = 0) && bare n)
theorem bare_all : ∀ n, bare n = true → ∀ d, 2 ≤ d → d ≤ n + 1 → ¬ 1073741789 % d = 0 := by
  intro n
  induction n with
  | zero => intro _ d h1 h2; omega
  | succ n ih =>
    intro h d h1 h2
    simp only [bare, Bool.or_eq_true, Bool.and_eq_true, decide_eq_true_eq] at h
    rcases h with h | h
    · omega
    · by_cases e : d = n + 2
      · subst e; exact h.1
      · exact ih h.2 d h1 (by omega)
set_option maxRecDepth 1000000 in
theorem order_bare : bare 32768 = true := by decide +kernel
theorem order_gcd (k : Nat) (h1 : 1 ≤ k) (h2 : k < 1073741789) : Nat.gcd k 1073741789 = 1 := by
  obtain ⟨g, hg⟩ : ∃ g, Nat.gcd k 1073741789 = g := ⟨_, rfl⟩
  rw [hg]
  have hk : g ∣ k := hg ▸ Nat.gcd_dvd_left _ _
  obtain ⟨m, hm⟩ : g ∣ 1073741789 := hg ▸ Nat.gcd_dvd_right _ _
  have hgk := Nat.le_of_dvd (by omega) hk
  rcases Nat.lt_or_ge g 2 with hlt | hge
  · have : g ≠ 0 := by rintro rfl; simp at hm
    omega
  · exfalso
    have hm2 : 2 ≤ m := by
      rcases Nat.lt_or_ge m 2 with h | h
      · obtain rfl | rfl : m = 0 ∨ m = 1 := by omega
        · simp at hm
        · omega
      · exact h
    have A := bare_all 32768 order_bare
    rcases Nat.lt_or_ge 32769 g with hb | hb
    · rcases Nat.lt_or_ge 32769 m with hc | hc
      · have := Nat.mul_le_mul (show 32770 ≤ g by omega) (show 32770 ≤ m by omega)
        omega
      · exact A m hm2 (by omega) (by rw [hm, Nat.mul_mod_left])
    · exact A g hge (by omega) (by rw [hm, Nat.mul_mod_right])
theorem four_gcd (a b : Nat) : 4 ^ a % 2147483579 = 1 → 4 ^ b % 2147483579 = 1 → 4 ^ Nat.gcd a b % 2147483579 = 1 := by
  induction a, b using Nat.gcd.induction with
  | H0 n => intro _ h; rw [Nat.gcd_zero_left]; exact h
  | H1 m n hm ih =>
    intro h1 h2
    rw [Nat.gcd_rec]
    refine ih ?_ h1
    have e : 4 ^ n % 2147483579 = 4 ^ (n % m) % 2147483579 := by
      conv => lhs; rw [← Nat.div_add_mod n m]
      rw [Nat.pow_add, Nat.mul_mod, Nat.pow_mul, Nat.pow_mod, h1, Nat.one_pow]
      simp
    rw [← e]; exact h2
theorem order_core (q k : Nat) (hq : q < 2 ^ 64) (h0q : q ≠ 0) (hk : k < 2 ^ 64) (h : pw 64 1 4 q = 1) (hg : Nat.gcd k q = 1) : pw 64 1 (pw 64 1 4 k) q = 1 ∧ pw 64 1 4 k ≠ 1 ∧ pw 64 1 4 k ≠ 0 := by
  have hp := pw_one 4 k hk
  have h : 4 ^ q % 2147483579 = 1 := by rw [← pw_one 4 q hq]; exact h
  have ho : ((pw 64 1 4 k) ^ q) % 2147483579 = 1 := by
    rw [hp, ← Nat.pow_mod, ← Nat.pow_mul, Nat.mul_comm, Nat.pow_mul, Nat.pow_mod, h, Nat.one_pow]
  refine ⟨by rw [pw_one _ q hq]; exact ho, ?_, ?_⟩
  · intro e
    have := four_gcd k q (by rw [← hp]; exact e) h
    rw [hg] at this
    exact absurd this (by decide)
  · intro e
    rw [e, Nat.zero_pow (Nat.pos_of_ne_zero h0q)] at ho
    exact absurd ho (by decide)
theorem point_elem (k : Nat) (h1 : 1 ≤ k) (h2 : k < 1073741789) : elemP ((pw 64 1 4 k : Nat) : Int) = true := by
  have hlt : pw 64 1 4 k < 2147483579 := pw_lt 64 1 4 k (by decide)
  obtain ⟨ho, hne, h0⟩ := order_core 1073741789 k (by decide) (by decide) (by omega) (by decide +kernel) (order_gcd k h1 h2)
  unfold elemP
  rw [Int.toNat_natCast, ho]
  have a1 : decide (0 < ((pw 64 1 4 k : Nat) : Int) ∧ ((pw 64 1 4 k : Nat) : Int) < 2147483579) = true := decide_eq_true (by omega)
  have a2 : decide (((pw 64 1 4 k : Nat) : Int) ≠ 1) = true := decide_eq_true (by omega)
  rw [a1, a2]
  rfl
theorem near_any (n : Nat) (hn : n < 1073741824) (w : World) : Calls Tryd.prog 68 #[.int .i64 n] w fun e w' => (∃ k : Nat, e = .returned (.int .i64 k) ∧ 1 ≤ k ∧ k < 1073741789) ∧ w' = w := by
  have e1 : (n : Int).tmod 1073741788 = ((n % 1073741788 : Nat) : Int) := by rw [Int.tmod_eq_emod_of_nonneg (by omega)]; rfl
  have hk : n % 1073741788 < 1073741788 := Nat.mod_lt _ (by decide)
  obtain ⟨k, hk2⟩ : ∃ k, n % 1073741788 = k := ⟨_, rfl⟩
  rw [hk2] at e1 hk
  go_enter Tryd.func68, Tryd.ntmps68
  go_wp2_with fail
  go_ret
  exact ⟨⟨1 + k, rfl, by omega, by omega⟩, rfl⟩
theorem point_any (n : Nat) (hn : n < 1073741824) (w : World) : Calls Tryd.prog 42 #[.int .i64 n] w fun e w' => (∃ k : Int, e = .returned (.int .i64 k) ∧ I64in k ∧ elemP k = true) ∧ w' = w := by
  have HN := Lib.hid (near_any n hn)
  go_enter Tryd.func42, Tryd.ntmps42
  go_wp2_with (first
    | (go_at_call 68; refine (HN.out _).mono ?_; rintro e w' ⟨⟨k, rfl, h1, h2⟩, hw⟩; rw [hw]; clear hw w')
    | (go_at_call 67; refine (rpow_any 4 k _ (by decide) (by omega)).mono ?_; rintro e w' ⟨rfl, hw⟩; rw [hw]; clear hw w'))
  go_ret
  have hlt : pw 64 1 4 k < 2147483579 := pw_lt 64 1 4 k (by decide)
  exact ⟨⟨_, rfl, ⟨by omega, by omega⟩, point_elem k h1 h2⟩, rfl⟩
end Go.Proofs.YtdpiehhblflacaaDoor
/- Layer 14: paper.Infos: infos that are made of dice are valid. -/
namespace Go.Proofs.YtdpiehhblflacaaDoor
open Go.RowKit Go.Deep

theorem validF_snoc (x : Inf) (hx : chkI x = 0) : ∀ (l : List Inf) (q : Option Inf), validF q l = 0 → (∀ y ∈ l, ordB (some y) x = false) → ordB q x = false → validF q (l ++ [x]) = 0 := by
  intro l
  induction l with
  | nil => intro q _ _ hq; simp [validF, hx, hq]
  | cons y r ih =>
    intro q h hy hq
    simp only [validF, List.cons_append] at h ⊢
    split at h
    · contradiction
    · rename_i h1
      rw [if_neg h1]
      split at h
      · cases h
      · rename_i h2
        rw [if_neg h2]
        exact ih (some y) h (fun z hz => hy z (by simp [hz])) (hy y (by simp))
/-- Infos in order, all before this protocol and number. -/
structure MadeL (p d : Int) (l : List Inf) : Prop where
  ok : validF none l = 0
  fits : ∀ x ∈ l, x.fits
  below : ∀ x ∈ l, x.p < p ∨ x.p = p ∧ x.d < d
theorem MadeL.nil (p d : Int) : MadeL p d [] := ⟨rfl, by simp, by simp⟩
theorem MadeL.snoc {p d d' : Int} {l : List Inf} {x : Inf} (h : MadeL p d l) (hx : chkI x = 0) (hf : x.fits) (hp : x.p = p) (hd : d ≤ x.d) (hd' : x.d < d') : MadeL p d' (l ++ [x]) := by
  refine ⟨validF_snoc x hx l none h.ok (fun y hy => ?_) rfl, fun y hy => ?_, fun y hy => ?_⟩
  · have := h.below y hy
    simp only [ordB, Bool.or_eq_false_iff, Bool.and_eq_false_iff, decide_eq_false_iff_not]
    omega
  · rcases List.mem_append.1 hy with h1 | h1
    · exact h.fits y h1
    · rw [List.mem_singleton.1 h1]; exact hf
  · rcases List.mem_append.1 hy with h1 | h1
    · have := h.below y h1; omega
    · rw [List.mem_singleton.1 h1]; omega
theorem MadeL.next {p d p' : Int} {l : List Inf} (h : MadeL p d l) (hp : p < p') : MadeL p' 0 l := ⟨h.ok, h.fits, fun x hx => by have := h.below x hx; omega⟩
theorem chk_plain {p v r : Int} (hp : 2 ≤ p ∧ p ≤ 6) (hv : 1 ≤ v ∧ v ≤ 255) (h4 : p ≠ 4) (hr : 0 ≤ r ∧ (r ≤ 31 ∧ (p = 2 ∨ p = 3) ∨ r = 0)) : chkI ⟨p, v, r, 0, 0⟩ = 0 := by
  have e4 : (p == 4) = false := by simp [h4]
  simp only [chkI, chkB, e4]
  rw [if_neg (by omega), if_neg (by omega)]
  by_cases h : p = 2 ∨ p = 3
  · have e : (decide (p = 2) || decide (p = 3)) = true := by simpa using h
    rw [e]
    simp; omega
  · have e : (decide (p = 2) || decide (p = 3)) = false := by simpa using h
    rw [e]
    simp; omega
theorem chk_chip {v k d : Int} (hv : 1 ≤ v ∧ v ≤ 255) (hk : elemP k = true) (hd : 0 ≤ d ∧ d ≤ 255) : chkI ⟨4, v, 0, k, d⟩ = 0 := by
  simp only [chkI, chkB, hk]
  simp; omega
/-- Inside Infos: a row of infos of its own, and the dice, older than it. -/
def IRow (B : Nat) (w wi : World) (p n : Nat) (o : Value) (l : List Inf) : Prop := OwnI wi w.heap.size o l ∧ DiePost B w p n wi ∧ B ≤ w.heap.size
theorem IRow.start {B : Nat} {w : World} {p n : Nat} (h : Die B w p n) : IRow B w w p n (.slice none 0 0) [] := ⟨OwnI.nil _ _, ⟨h, World.grownBy.refl _ _⟩, h.le⟩
theorem IRow.call {B : Nat} {w wi wj : World} {p n : Nat} {o : Value} {l : List Inf} (h : IRow B w wi p n o l) (hd : DiePost B wi p n wj) : IRow B w wj p n o l :=
  ⟨ownsRow_only h.1 (Nat.lt_of_lt_of_le hd.1.lt h.2.2) hd.2, h.2.1.trans hd, h.2.2⟩
theorem IRow.below {B : Nat} {w wi wj : World} {p n : Nat} {o : Value} {l : List Inf} (h : IRow B w wi p n o l) (hb : Below wi.heap.size wi wj) : IRow B w wj p n o l :=
  h.call ⟨h.2.1.1.below (hb.mono h.2.1.1.le), only_of_below hb _⟩
theorem IRow.own {B : Nat} {w wi : World} {p n : Nat} {o : Value} {l : List Inf} (h : IRow B w wi p n o l) : OwnI wi w.heap.size o l := h.1
theorem IRow.die {B : Nat} {w wi : World} {p n : Nat} {o : Value} {l : List Inf} (h : IRow B w wi p n o l) : Die B wi p n := h.2.1.1
theorem IRow.size {B : Nat} {w wi : World} {p n : Nat} {o : Value} {l : List Inf} (h : IRow B w wi p n o l) : w.heap.size ≤ wi.heap.size := h.2.1.2.size
/-- A row and an info in a box of the call's own. -/
structure XRow (B : Nat) (w wi : World) (p n : Nat) (o : Value) (l : List Inf) (g : Nat) (c : Array Value) : Prop where
  row : IRow B w wi p n o l
  off : o.ownBlock ≠ some g
  box : wi.heap[g]? = some (.cells c 45 (0, 0))
  new : w.heap.size ≤ g
theorem XRow.call {B : Nat} {w wi wj : World} {p n : Nat} {o : Value} {l : List Inf} {g : Nat} {c : Array Value} (h : XRow B w wi p n o l g c) (hd : DiePost B wi p n wj) : XRow B w wj p n o l g c :=
  ⟨h.row.call hd, h.off, (hd.2.block g (Array.getElem?_eq_some_iff.1 h.box).1 (by intro e; injection e with e; have := hd.1.lt; have := h.row.2.2; have := h.new; omega)).trans h.box, h.new⟩
theorem XRow.set {B : Nat} {w wi : World} {p n : Nat} {o : Value} {l : List Inf} {g i : Nat} {c c' : Array Value} {u : Value} (h : XRow B w wi p n o l g c) (hc : c' = c.set! i u) : XRow B w (wi.setCell ⟨g, i, none⟩ u) p n o l g c' := by
  have hg : World.grownBy wi (wi.setCell ⟨g, i, none⟩ u) (some g) := only_setCell (World.grownBy.refl _ _) (.inl rfl) _
  obtain ⟨⟨h1, h2, h3⟩, h4, h5, h6⟩ := h
  refine ⟨⟨World.ownsRow.kept h1 hg (.inr h4), ⟨h2.1.keep (by simp [World.setCell]) fun b hb => Below.heap_setCell _ _ _ _ (by simp only; omega), only_row h2.2 hg fun b e => by injection e with e; omega⟩, h3⟩, h4, ?_, h6⟩
  subst hc
  show (wi.heap.modify g _)[g]? = _
  rw [Array.getElem?_modify, if_pos rfl, h5]
  rfl
theorem XRow.new_box {B : Nat} {w wi : World} {p n : Nat} {o : Value} {l : List Inf} (h : IRow B w wi p n o l) (c : Array Value) : XRow B w (wi.alloc (.cells c 45)) p n o l wi.heap.size c :=
  ⟨h.below ((Below.refl _ _).alloc (Nat.le_refl _) _), fun e => by have := (World.ownsRow.lt h.1 _ e).2; omega, heap_alloc_new _ _, h.size⟩
theorem XRow.grew {B : Nat} {w wi wj : World} {p n : Nat} {o o' : Value} {l l' : List Inf} {g : Nat} {c : Array Value} (h : XRow B w wi p n o l g c) (G : wi.grownBy wj o.ownBlock) (ho : OwnI wj w.heap.size o' l') (hn : o'.ownBlock = o.ownBlock ∨ ∃ b, o'.ownBlock = some b ∧ wi.heap.size ≤ b) : XRow B w wj p n o' l' g c := by
  obtain ⟨⟨h1, ⟨h2, h2'⟩, h3⟩, h4, h5, h6⟩ := h
  have hlt := (Array.getElem?_eq_some_iff.1 h5).1
  refine ⟨⟨ho, ⟨h2.keep G.size fun b hb => G.block b (Nat.lt_of_lt_of_le hb h2.le) (fun e => ?_), only_row h2' G fun b e => (World.ownsRow.lt h1 b e).1⟩, h3⟩, ?_, (G.block g hlt (fun e => h4 e.symm)).trans h5, h6⟩
  · have := (World.ownsRow.lt h1 b e.symm).1; omega
  · rcases hn with e | ⟨b, e, hb⟩
    · rw [e]; exact h4
    · rw [e]; intro e2; injection e2 with e2; omega
/-- append of one info, beside a box of the call's own. -/
theorem wpList_xinfo {ops : Array Oper} {rest : List Oper} {op : Oper} {a : Act} {Q : Exit → Act → World → Prop} (hgd : op.guard = none) (s x : Operand)
    (ho : op.op = .call { callee := .builtin .append, args := #[s, x], argTypes := #[22, 22] })
    {B : Nat} {w : World} (wi : World) {p n : Nat} (o : Value) (l : List Inf) {g : Nat} {c : Array Value} (y : Inf) (hs : a.eval s = o) (h : XRow B w wi p n o l g c) (ty : TypeId) (g' : Nat) (hx : a.eval x = .slice (some ⟨g', 0, none⟩) 1 1) (hg : g' = wi.heap.size) (hl : l.length ≤ 1000000000000)
    (hk : ∀ o' w', XRow B w w' p n o' (l ++ [y]) g c → wpList Tryd.prog ops Q rest (a.put op.dst o') w') : wpList Tryd.prog ops Q (op :: rest) a (wi.alloc (.cells #[.int .i64 y.p, .int .i64 y.v, .int .i64 y.r, .int .i64 y.k, .int .i64 y.d] ty)) := by
  subst hg
  have h' : XRow B w (wi.alloc (.cells #[.int .i64 y.p, .int .i64 y.v, .int .i64 y.r, .int .i64 y.k, .int .i64 y.d] ty)) p n o l g c :=
    ⟨h.row.below ((Below.refl _ _).alloc (Nat.le_refl _) _), h.off, (Below.heap_alloc _ _ _ (Array.getElem?_eq_some_iff.1 h.box).1).trans h.box, h.new⟩
  refine wpList_row (w := wi.alloc (.cells #[.int .i64 y.p, .int .i64 y.v, .int .i64 y.r, .int .i64 y.k, .int .i64 y.d] ty)) hgd s x 22 45 5 40 (.agg #[.int .i64 0, .int .i64 0, .int .i64 0, .int .i64 0, .int .i64 0]) ho Tryd.underlying22 infoInfo z5 (by decide) w.heap.size o l.length (infV l) hs h'.row.1 wi.heap.size 1
    #[.int .i64 y.p, .int .i64 y.v, .int .i64 y.r, .int .i64 y.k, .int .i64 y.d] ty (0, 0) hx (heap_alloc_new _ _) rfl (by simp [Value.oneCell']) (by unfold maxLen; omega) (by omega) h'.row.size fun o' w' hG => hk o' w' (h'.grew hG.grown ?_ ?_)
  · have := hG.own
    show w'.ownsRow w.heap.size 45 5 o' (l ++ [y]).length (infV (l ++ [y]))
    rw [infV_app, List.length_append]
    exact this
  · rcases hG.at_ with e | e
    · exact .inl e
    · exact .inr ⟨_, e, Nat.le_refl _⟩
theorem XRow.box5 {B : Nat} {w wi : World} {p n : Nat} {o : Value} {l : List Inf} {g : Nat} {a b c d e : Value} (h : XRow B w wi p n o l g #[a, b, c, d, e]) :
    wi.cell? ⟨g, 0, none⟩ = some a ∧ wi.cell? ⟨g, 1, none⟩ = some b ∧ wi.cell? ⟨g, 2, none⟩ = some c ∧ wi.cell? ⟨g, 3, none⟩ = some d ∧ wi.cell? ⟨g, 4, none⟩ = some e ∧ ∀ o, wi.frozen? ⟨g, o, none⟩ = false := by
  refine ⟨?_, ?_, ?_, ?_, ?_, fun o => by simp [World.frozen?, h.box]⟩ <;> (rw [cell_of_row _ _ _ _ _ _ h.box]; rfl)
set_option maxRecDepth 100000 in
set_option maxHeartbeats 4000000 in
theorem infos_any (B p n : Nat) (w : World) (h : Die B w p n) :
    Calls Tryd.prog 19 #[.pointer (some ⟨p, 0, none⟩)] w fun e w' => ∃ v, e = .returned v ∧ ∃ l, InfS w' (New w w') v l ∧ l.length ≤ 16 ∧ validP l = 0 ∧ DiePost B w p n w' := by
  have H0 := Lib.hid (IRow.start h)
  clear h
  go_enter Tryd.func19, Tryd.ntmps19
  go_wp2_with fail
  go_loopg [4, 3] 5 (fun q i o wr => ∃ (l : List Inf) (pr : Nat), pr + q = 7 ∧ 2 ≤ pr ∧ i = .int .i64 pr ∧ l.length ≤ 3 * (pr - 2) ∧ MadeL pr 0 l ∧ IRow B w wr p n o l)
  case atStart => exact ⟨[], 2, rfl, by omega, rfl, by simp, MadeL.nil _ _, H0.out⟩
  case round =>
    obtain ⟨l, pr, hq, hp2, rfl, hl, hm, hR⟩ := hrel
    obtain ⟨oa, oc, rfl⟩ := (IRow.own hR).form
    have HR := Lib.hid hR; have HM := Lib.hid hm
    clear hR hm
    by_cases hq0 : gk = 0
    · subst hq0
      have hd6 : ¬ (pr : Int) ≤ 6 := by omega
      go_wp2_with fail
      go_ret
      exact ⟨_, rfl, l, (OwnI.infs HR.out.1 HM.out.fits (by omega)).keep fun b hs _ => ⟨rfl, hs⟩, by omega, by unfold validP; rw [if_neg (by omega)]; exact HM.out.ok, HR.out.2.1⟩
    · have hd6 : (pr : Int) ≤ 6 := by omega
      go_wp2_with (go_at_call 20; refine (one_any B p n _ _ HR.out.die (by decide) (by decide)).mono ?_; rintro e w3 ⟨b3, rfl, hd⟩; have H3 := Lib.hid (HR.out.call hd); clear hd; cases b3)
      · skip
        go_wp2_with fail
        go_roundg (gk - 1)
        case measure => omega
        case rel => exact ⟨l, pr + 1, by omega, by omega, by go_num, by omega, HM.out.next (by go_num), H3.out⟩
      · skip
        go_upto_region 7 with (go_at_call 41; refine (next_any B p n _ _ H3.out.die (by decide) (by decide)).mono ?_; rintro e w4 ⟨z4, rfl, hz4, hd⟩; have H4 := Lib.hid (H3.out.call hd); clear hd)
        have X5 := Lib.hid (XRow.new_box H4.out #[.int .i64 pr, .int .i64 (1 + z4), .int .i64 0, .int .i64 0, .int .i64 0])
        have HV : Hid (1 ≤ 1 + (z4 : Int) ∧ 1 + (z4 : Int) ≤ 255) := Lib.hid (by omega)
        have hvf : I64in (1 + (z4 : Int)) := ⟨by omega, by omega⟩
        obtain ⟨v4, hv4⟩ : ∃ v : Int, v = 1 + z4 := ⟨_, rfl⟩
        rw [← hv4] at X5 HV hvf ⊢
        obtain ⟨g, hg⟩ : ∃ g, g = w4.heap.size := ⟨_, rfl⟩
        obtain ⟨w5, hw5⟩ : ∃ x : World, x = w4.alloc (.cells #[.int .i64 pr, .int .i64 v4, .int .i64 0, .int .i64 0, .int .i64 0] 45) := ⟨_, rfl⟩
        rw [← hw5, ← hg] at X5 ⊢
        clear hw5 hg hv4 hz4 hd6
        have hl9 : l.length ≤ 1000000000000 := by omega
        obtain hpr | hpr | hpr | hpr | hpr : pr = 2 ∨ pr = 3 ∨ pr = 4 ∨ pr = 5 ∨ pr = 6 := by omega
        all_goals (clear hq0; subst hpr)
        · have hgk : gk = 5 := by omega
          subst hgk
          have X5 : Hid (XRow B w w5 p n (.slice oa l.length oc) l g #[.int .i64 2, .int .i64 v4, .int .i64 0, .int .i64 0, .int .i64 0]) := X5
          have HM : Hid (MadeL 2 0 l) := HM
          have HL : Hid (l.length ≤ 0) := Lib.hid (by omega)
          clear hl hp2 hq
          go_upto_region 18 with (go_at_call 41; refine (next_any B p n _ _ X5.out.row.die (by decide) (by decide)).mono ?_; rintro e w6 ⟨z6, rfl, hz6, hd⟩; have X6 := Lib.hid (X5.out.call hd); obtain ⟨c0, c1, c2, c3, c4, cf⟩ := X6.out.box5; have f2 := cf 2; clear hd cf)
          clear c0 c1 c2 c3 c4 f2
          have X7 : Hid (XRow B w (w6.setCell ⟨g, 2, none⟩ (.int .i64 z6)) p n (.slice oa l.length oc) l g #[.int .i64 2, .int .i64 v4, .int .i64 z6, .int .i64 0, .int .i64 0]) := Lib.hid (X6.out.set rfl)
          obtain ⟨w7, hw7⟩ : ∃ x : World, x = w6.setCell ⟨g, 2, none⟩ (.int .i64 z6) := ⟨_, rfl⟩
          rw [← hw7] at X7 ⊢
          obtain ⟨c0, c1, c2, c3, c4, _⟩ := X7.out.box5
          clear hw7
          have HC : Hid (chkI ⟨2, v4, z6, 0, 0⟩ = 0) := Lib.hid (chk_plain (by omega) HV.out (by omega) ⟨by omega, by omega⟩)
          have HZ : Hid (I64in z6) := Lib.hid ⟨by omega, by omega⟩
          clear hz6
          go_wp2_with (at_builtin; (with_reducible refine wpList_xinfo rfl (.tmp 50) (.tmp 52) rfl w7 (.slice oa l.length oc) l ⟨2, v4, z6, 0, 0⟩ rfl X7.out 45 w7.heap.size rfl rfl hl9 ?_); intro o8 w8 hG; obtain ⟨oa8, oc8, ho8⟩ := (IRow.own hG.row).form; rw [List.length_append, List.length_singleton] at ho8; subst ho8; have X8 := Lib.hid hG; clear hG)
          go_roundg 4
          case measure => omega
          case rel => exact ⟨l ++ [⟨2, v4, z6, 0, 0⟩], 3, by omega, by omega, by go_num, by have := HL.out; simp; omega, (HM.out.snoc (d' := 1) HC.out ⟨by simp [I64in], hvf, HZ.out, by simp [I64in], by simp [I64in]⟩ rfl (Int.le_refl 0) (by simp)).next (by omega), X8.out.row⟩
        · have hgk : gk = 4 := by omega
          subst hgk
          have X5 : Hid (XRow B w w5 p n (.slice oa l.length oc) l g #[.int .i64 3, .int .i64 v4, .int .i64 0, .int .i64 0, .int .i64 0]) := X5
          have HM : Hid (MadeL 3 0 l) := HM
          have HL : Hid (l.length ≤ 3) := Lib.hid (by omega)
          clear hl hp2 hq
          go_upto_region 18 with (go_at_call 41; refine (next_any B p n _ _ X5.out.row.die (by decide) (by decide)).mono ?_; rintro e w6 ⟨z6, rfl, hz6, hd⟩; have X6 := Lib.hid (X5.out.call hd); obtain ⟨c0, c1, c2, c3, c4, cf⟩ := X6.out.box5; have f2 := cf 2; clear hd cf)
          clear c0 c1 c2 c3 c4 f2
          have X7 : Hid (XRow B w (w6.setCell ⟨g, 2, none⟩ (.int .i64 z6)) p n (.slice oa l.length oc) l g #[.int .i64 3, .int .i64 v4, .int .i64 z6, .int .i64 0, .int .i64 0]) := Lib.hid (X6.out.set rfl)
          obtain ⟨w7, hw7⟩ : ∃ x : World, x = w6.setCell ⟨g, 2, none⟩ (.int .i64 z6) := ⟨_, rfl⟩
          rw [← hw7] at X7 ⊢
          obtain ⟨c0, c1, c2, c3, c4, _⟩ := X7.out.box5
          clear hw7
          have HC : Hid (chkI ⟨3, v4, z6, 0, 0⟩ = 0) := Lib.hid (chk_plain (by omega) HV.out (by omega) ⟨by omega, by omega⟩)
          have HZ : Hid (I64in z6) := Lib.hid ⟨by omega, by omega⟩
          clear hz6
          go_wp2_with (at_builtin; (with_reducible refine wpList_xinfo rfl (.tmp 50) (.tmp 52) rfl w7 (.slice oa l.length oc) l ⟨3, v4, z6, 0, 0⟩ rfl X7.out 45 w7.heap.size rfl rfl hl9 ?_); intro o8 w8 hG; obtain ⟨oa8, oc8, ho8⟩ := (IRow.own hG.row).form; rw [List.length_append, List.length_singleton] at ho8; subst ho8; have X8 := Lib.hid hG; clear hG)
          go_roundg 3
          case measure => omega
          case rel => exact ⟨l ++ [⟨3, v4, z6, 0, 0⟩], 4, by omega, by omega, by go_num, by have := HL.out; simp; omega, (HM.out.snoc (d' := 1) HC.out ⟨by simp [I64in], hvf, HZ.out, by simp [I64in], by simp [I64in]⟩ rfl (Int.le_refl 0) (by simp)).next (by omega), X8.out.row⟩
        · have hgk : gk = 3 := by omega
          subst hgk
          have X5 : Hid (XRow B w w5 p n (.slice oa l.length oc) l g #[.int .i64 4, .int .i64 v4, .int .i64 0, .int .i64 0, .int .i64 0]) := X5
          have HM : Hid (MadeL 4 0 l) := HM
          have HL : Hid (l.length ≤ 6) := Lib.hid (by omega)
          clear hl hp2 hq
          obtain ⟨wo, rfl⟩ : ∃ wo : World, wo = wr := ⟨_, rfl⟩
          go_wp2_with (go_at_call 41; refine (next_any B p n _ _ X5.out.row.die (by decide) (by decide)).mono ?_; rintro e w6 ⟨z6, rfl, hz6, hd⟩; have X6 := Lib.hid (X5.out.call hd); clear hd)
          go_loopg [6, 3] (3 - z6) (fun q i o wr => ∃ (L : List Inf) (j : Nat) (k d e : Int), j + q = 3 ∧ i = .int .i64 j ∧ (L.length ≤ 8 ∧ L.length ≤ 6 + j) ∧ MadeL 4 e L ∧ e ≤ 80 ∧ e ≤ 40 * j ∧ (j = 3 → elemP k = true ∧ I64in k ∧ 80 ≤ d ∧ d < 120) ∧ XRow B w wr p n o L g #[.int .i64 4, .int .i64 v4, .int .i64 0, .int .i64 k, .int .i64 d])
          case atStart => exact ⟨l, z6, 0, 0, 0, by omega, rfl, ⟨by have := HL.out; omega, by have := HL.out; omega⟩, HM.out, by omega, by omega, fun h => by omega, X6.out⟩
          case round =>
            obtain ⟨L, j, k, d, e, hq, rfl, hL, hM, he1, he2, hx, hR⟩ := hrel
            obtain ⟨ra, rc, rfl⟩ := (IRow.own hR.row).form
            have HR := Lib.hid hR; have HML := Lib.hid hM; have HX := Lib.hid hx
            have HLL : Hid (L.length ≤ 8 ∧ L.length ≤ 6 + j) := Lib.hid hL
            have HE : Hid (e ≤ 80 ∧ e ≤ 40 * (j : Int)) := Lib.hid ⟨he1, he2⟩
            clear hR hM hx he1 he2
            have hl9' : L.length ≤ 1000000000000 := by omega
            clear hL hl9 hz6
            by_cases hj : gk = 0
            · obtain rfl : j = 3 := by omega
              obtain ⟨q1, q2, q3, q4⟩ := HX.out rfl
              have Q1 := Lib.hid q1; have Q2 := Lib.hid q2; have Q3 := Lib.hid q3; have Q4 := Lib.hid q4
              clear hj hq q1 q2 q3 q4 HX
              obtain ⟨c0, c1, c2, c3, c4, _⟩ := HR.out.box5
              go_wp2_with (at_builtin; (with_reducible refine wpList_xinfo rfl (.tmp 50) (.tmp 52) rfl wr (.slice ra L.length rc) L ⟨4, v4, 0, k, d⟩ rfl HR.out 45 wr.heap.size rfl rfl hl9' ?_); intro o8 w8 hG; obtain ⟨oa8, oc8, ho8⟩ := (IRow.own hG.row).form; rw [List.length_append, List.length_singleton] at ho8; subst ho8; have X8 := Lib.hid hG; clear hG)
              go_roundg 2
              case measure => omega
              case rel =>
                have q1 := Q1.out; have q2 := Q2.out; have q3 := Q3.out; have q4 := Q4.out
                have h9 := HLL.out
                have hc : chkI ⟨4, v4, 0, k, d⟩ = 0 := chk_chip HV.out q1 (by omega)
                exact ⟨L ++ [⟨4, v4, 0, k, d⟩], 5, by omega, by omega, by go_num, by simp; omega, (HML.out.snoc (d' := 120) hc ⟨by simp [I64in], hvf, by simp [I64in], q2, (show I64in d by unfold I64in; omega)⟩ rfl (Int.le_trans HE.out.1 q3) q4).next (by omega), X8.out.row⟩
            · have hj3 : j < 3 := by omega
              have hj3' : (j : Int) < 3 := by omega
              clear hj
              go_upto_region 16 with (first
                | (go_at_call 41; refine (next_any B p n 40 _ X7.out.row.die (by decide) (by decide)).mono ?_; rintro e9 w9 ⟨z9, rfl, hz9, hd⟩; have X9 := Lib.hid (X7.out.call hd); obtain ⟨c0, c1, c2, c3, c4, cf⟩ := X9.out.box5; have f3 := cf 3; have f4 := cf 4; clear hd cf)
                | (go_at_call 41; refine (next_any B p n 1073741824 _ HR.out.row.die (by decide) (by decide)).mono ?_; rintro e7 w7 ⟨z7, rfl, hz7, hd⟩; have X7 := Lib.hid (HR.out.call hd); clear hd)
                | (go_at_call 42; refine (point_any z7 (by omega) _).mono ?_; rintro e8 w8 ⟨⟨k8, rfl, hk8, he8⟩, hw8⟩; rw [hw8]; have HK8 := Lib.hid he8; clear hw8 w8 he8))
              clear c0 c1 c2 c3 c4 f3 f4 hj3'
              have hjj : I64in (40 * (j : Int) + z9) := ⟨by omega, by omega⟩
              have HD : Hid (40 * (j : Int) ≤ 40 * (j : Int) + z9 ∧ 40 * (j : Int) + z9 < 40 * (j : Int) + 40 ∧ 0 ≤ (j : Int) ∧ (j : Int) < 3) := Lib.hid (by omega)
              obtain ⟨dd, hdd⟩ : ∃ x : Int, x = 40 * (j : Int) + z9 := ⟨_, rfl⟩
              rw [← hdd] at hjj HD ⊢
              have XA : Hid (XRow B w ((w9.setCell ⟨g, 3, none⟩ (.int .i64 k8)).setCell ⟨g, 4, none⟩ (.int .i64 dd)) p n (.slice ra L.length rc) L g #[.int .i64 4, .int .i64 v4, .int .i64 0, .int .i64 k8, .int .i64 dd]) := Lib.hid (XRow.set (c := #[.int .i64 4, .int .i64 v4, .int .i64 0, .int .i64 k8, .int .i64 d]) (XRow.set X9.out rfl) rfl)
              obtain ⟨wA, hwA⟩ : ∃ x : World, x = (w9.setCell ⟨g, 3, none⟩ (.int .i64 k8)).setCell ⟨g, 4, none⟩ (.int .i64 dd) := ⟨_, rfl⟩
              rw [← hwA] at XA ⊢
              obtain ⟨c0, c1, c2, c3, c4, _⟩ := XA.out.box5
              clear hwA hdd hz7 hz9
              by_cases hj2 : j < 2
              · have hj2' : (j : Int) < 2 := by omega
                go_wp2_with (at_builtin; (with_reducible refine wpList_xinfo rfl (.tmp 46) (.tmp 48) rfl wA (.slice ra L.length rc) L ⟨4, v4, 0, k8, dd⟩ rfl XA.out 45 wA.heap.size rfl rfl hl9' ?_); intro o8 w8 hG; obtain ⟨oa8, oc8, ho8⟩ := (IRow.own hG.row).form; rw [List.length_append, List.length_singleton] at ho8; subst ho8; have X8 := Lib.hid hG; clear hG)
                go_roundg (gk - 1)
                case measure => omega
                case rel =>
                  have h9 := HLL.out
                  have h8 := HD.out
                  have hc : chkI ⟨4, v4, 0, k8, dd⟩ = 0 := chk_chip HV.out HK8.out (by omega)
                  have he : e ≤ dd := Int.le_trans HE.out.2 h8.1
                  exact ⟨L ++ [⟨4, v4, 0, k8, dd⟩], j + 1, k8, dd, 40 * (j : Int) + 40, by omega, by go_num, ⟨by simp; omega, by simp; omega⟩, HML.out.snoc hc ⟨by simp [I64in], hvf, by simp [I64in], hk8, hjj⟩ rfl he h8.2.1, by omega, by push_cast; omega, fun h => by omega, X8.out⟩
              · have hj2' : ¬ (j : Int) < 2 := by omega
                go_wp2_with fail
                go_roundg (gk - 1)
                case measure => omega
                case rel =>
                  have h9 := HLL.out
                  have h8 := HD.out
                  have he := HE.out
                  exact ⟨L, j + 1, k8, dd, e, by omega, by go_num, by omega, HML.out, by omega, by push_cast; omega, fun h => ⟨HK8.out, hk8, by omega, by omega⟩, XA.out⟩
        · have hgk : gk = 2 := by omega
          subst hgk
          have X5 : Hid (XRow B w w5 p n (.slice oa l.length oc) l g #[.int .i64 5, .int .i64 v4, .int .i64 0, .int .i64 0, .int .i64 0]) := X5
          have HM : Hid (MadeL 5 0 l) := HM
          have HL : Hid (l.length ≤ 9) := Lib.hid (by omega)
          clear hl hp2 hq
          obtain ⟨c0, c1, c2, c3, c4, _⟩ := X5.out.box5
          have HC : Hid (chkI ⟨5, v4, 0, 0, 0⟩ = 0) := Lib.hid (chk_plain (by omega) HV.out (by omega) ⟨by omega, by omega⟩)
          go_wp2_with (at_builtin; (with_reducible refine wpList_xinfo rfl (.tmp 50) (.tmp 52) rfl w5 (.slice oa l.length oc) l ⟨5, v4, 0, 0, 0⟩ rfl X5.out 45 w5.heap.size rfl rfl hl9 ?_); intro o8 w8 hG; obtain ⟨oa8, oc8, ho8⟩ := (IRow.own hG.row).form; rw [List.length_append, List.length_singleton] at ho8; subst ho8; have X8 := Lib.hid hG; clear hG)
          go_roundg 1
          case measure => omega
          case rel => exact ⟨l ++ [⟨5, v4, 0, 0, 0⟩], 6, by omega, by omega, by go_num, by have := HL.out; simp; omega, (HM.out.snoc (d' := 1) HC.out ⟨by simp [I64in], hvf, by simp [I64in], by simp [I64in], by simp [I64in]⟩ rfl (Int.le_refl 0) (by simp)).next (by omega), X8.out.row⟩
        · have hgk : gk = 1 := by omega
          subst hgk
          have X5 : Hid (XRow B w w5 p n (.slice oa l.length oc) l g #[.int .i64 6, .int .i64 v4, .int .i64 0, .int .i64 0, .int .i64 0]) := X5
          have HM : Hid (MadeL 6 0 l) := HM
          have HL : Hid (l.length ≤ 12) := Lib.hid (by omega)
          clear hl hp2 hq
          obtain ⟨c0, c1, c2, c3, c4, _⟩ := X5.out.box5
          have HC : Hid (chkI ⟨6, v4, 0, 0, 0⟩ = 0) := Lib.hid (chk_plain (by omega) HV.out (by omega) ⟨by omega, by omega⟩)
          go_wp2_with (at_builtin; (with_reducible refine wpList_xinfo rfl (.tmp 50) (.tmp 52) rfl w5 (.slice oa l.length oc) l ⟨6, v4, 0, 0, 0⟩ rfl X5.out 45 w5.heap.size rfl rfl hl9 ?_); intro o8 w8 hG; obtain ⟨oa8, oc8, ho8⟩ := (IRow.own hG.row).form; rw [List.length_append, List.length_singleton] at ho8; subst ho8; have X8 := Lib.hid hG; clear hG)
          go_roundg 0
          case measure => omega
          case rel => exact ⟨l ++ [⟨6, v4, 0, 0, 0⟩], 7, by omega, by omega, by go_num, by have := HL.out; simp; omega, (HM.out.snoc (d' := 1) HC.out ⟨by simp [I64in], hvf, by simp [I64in], by simp [I64in], by simp [I64in]⟩ rfl (Int.le_refl 0) (by simp)).next (by omega), X8.out.row⟩
end Go.Proofs.YtdpiehhblflacaaDoor
