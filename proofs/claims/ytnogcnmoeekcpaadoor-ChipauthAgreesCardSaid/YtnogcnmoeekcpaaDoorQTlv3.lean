/- Layer 2: the shortest form of a length, the reference's side. -/
import Derived.Test.YtnogcnmoeekcpaaDoorTlv1
import Derived.Deep.LoopGhost
import Derived.Deep.Cut
import Derived.Deep.QuietTactic
import Derived.BigQuiet
import Derived.Deep.DeepMust
namespace Go.Proofs.YtnogcnmoeekcpaaDoor
open Go.RowKit

/-- A length in shortest form, up to 65535. -/
def lenR (n : Nat) : List UInt8 := if n ≤ 127 then [ofI n] else if n ≤ 255 then [129, ofI n] else [130, ofI ((n : Int) / 256), ofI n]
theorem lit_new (w : World) (l : List UInt8) (t : TypeId) (hl : l.length ≤ 140737488355328) (c : Array Value) (hc : c = (l.map U8).toArray) :
    BsS (w.alloc (.cells c t)) (New w (w.alloc (.cells c t))) (.slice (some ⟨w.heap.size, 0, none⟩) l.length l.length) l := by
  subst hc
  refine ⟨_, _, rfl, Nat.le_refl _, by omega, hl, fun _ => ⟨_, _, rfl, ⟨Nat.le_refl _, by simp⟩, fun j hj => ?_⟩⟩
  rw [Nat.zero_add, cell_of_row _ _ _ _ _ _ (heap_alloc_new _ _)]
  exact (List.getElem?_toArray ..).trans (mapU8_get l j hj)
end Go.Proofs.YtnogcnmoeekcpaaDoor
/- Layer 2: the walks of check, both sides. -/
namespace Go.Proofs.YtnogcnmoeekcpaaDoor
open Go.RowKit Go.Deep

/-- A block of one int cell. -/
abbrev IntBox (w : World) (p : Nat) (c : Int) : Prop := w.heap[p]? = some (.cells #[.int .i64 c] 3 (0, 0))
/-- What check leaves of its count. -/
def CountPost (w : World) (p : Nat) (r c n : Int) (w' : World) : Prop := (∃ c', IntBox w' p c' ∧ (r = 0 → c' = c + n)) ∧ w.grownBy w' (some p)
theorem chk_stay (t : Int) (v : List UInt8) (k r : Ns) (d : Nat) (h1 : tagV t = true) (h2 : ¬ ((tagC t = false ∧ 0 < k.len) ∨ (tagC t = true ∧ 0 < v.length))) (h3 : d ≤ 8) (h4 : k.chk (d + 1) = 0) : (Ns.cons t v k r).chk d = r.chk d := by
  rw [Ns.chk, if_neg (by rw [h1]; decide), if_neg h2, if_neg (by omega), if_pos h4]
theorem BsS.form2 {w : World} {S : Nat → Prop} {v : Value} {l : List UInt8} (h : BsS w S v l) : ∃ A c, v = .slice A l.length c := by
  obtain ⟨a, c, hv, _⟩ := h; exact ⟨a, c, hv⟩
theorem NsAt.zero {w : World} {S : Nat → Prop} {L : Ns} {a : Option Addr} {b off : Nat} {X : Prop} (h : 0 < L.len → a = some ⟨b, off, none⟩ ∧ X ∧ NsAt w S L b off) : NsAt w S L b off := by
  cases L with
  | nil => trivial
  | cons t v k r => exact (h (by simp [Ns.len])).2.2
theorem NsAt.alloc {w : World} {S : Nat → Prop} {L : Ns} {b off : Nat} (h : NsAt w S L b off) (hb : S b) (hl : b < w.heap.size) (o : Obj) : NsAt (w.alloc o) S L b off :=
  NsAt.keep (fun b hs hl => ⟨Below.heap_alloc w o b hl, hs⟩) L b off hb hl h
theorem NsAt.grown {w w' : World} {p : Nat} {L : Ns} {b off : Nat} (h : NsAt w (fun b => b < w.heap.size ∧ b ≠ p) L b off) (hb : b ≠ p) (hl : b < w.heap.size) (hg : w.grownBy w' (some p)) : NsAt w' (fun b => b < w'.heap.size ∧ b ≠ p) L b off :=
  NsAt.keep (fun b hs hl => ⟨hg.block b hl (by intro e; injection e; exact hs.2 (by omega)), ⟨Nat.lt_of_lt_of_le hl hg.size, hs.2⟩⟩) L b off ⟨hl, hb⟩ hl h
theorem NsS.grown {w w' : World} {p : Nat} {L : Ns} {v : Value} (h : NsS w (fun b => b < w.heap.size ∧ b ≠ p) v L) (hg : w.grownBy w' (some p)) : NsS w' (fun b => b < w'.heap.size ∧ b ≠ p) v L :=
  h.keep (fun b hs hl => ⟨hg.block b hl (by intro e; injection e; exact hs.2 (by omega)), ⟨Nat.lt_of_lt_of_le hl hg.size, hs.2⟩⟩)
theorem IntBox.cell {w : World} {p : Nat} {c : Int} (h : IntBox w p c) : w.cell? ⟨p, 0, none⟩ = some (.int .i64 c) := by rw [cell_of_row _ _ _ _ _ _ h]; rfl
theorem IntBox.lt {w : World} {p : Nat} {c : Int} (h : IntBox w p c) : p < w.heap.size := (Array.getElem?_eq_some_iff.1 h).1
theorem IntBox.alloc {w : World} {p : Nat} {c : Int} (h : IntBox w p c) (o : Obj) : IntBox (w.alloc o) p c := (Below.heap_alloc w o p h.lt).trans h
theorem IntBox.set {w : World} {p : Nat} {c : Int} (h : IntBox w p c) (n : Int) : IntBox (w.setCell ⟨p, 0, none⟩ (.int .i64 n)) p n :=
  one_setCell h
theorem chk_good (t : Int) (v : List UInt8) (k r : Ns) (d : Nat) (h1 : tagV t = true) (h2 : ¬ ((tagC t = false ∧ 0 < k.len) ∨ (tagC t = true ∧ 0 < v.length))) : (Ns.cons t v k r).chk d = if 8 < d then 7 else if k.chk (d + 1) = 0 then r.chk d else k.chk (d + 1) := by
  rw [Ns.chk, if_neg (by rw [h1]; decide), if_neg h2]
theorem count_step {w wr : World} {p : Nat} {cc : Int} (hg : w.grownBy wr (some p)) (hb : IntBox wr p cc) (o : Obj) :
    IntBox ((wr.setCell ⟨p, 0, none⟩ (.int .i64 (cc + 1))).alloc o) p (cc + 1) ∧ w.grownBy ((wr.setCell ⟨p, 0, none⟩ (.int .i64 (cc + 1))).alloc o) (some p) :=
  ⟨(hb.set _).alloc o, only_alloc (only_setCell hg (.inl rfl) _) o⟩
theorem count_err {w wr : World} {p : Nat} {cc r c n : Int} (hg : w.grownBy wr (some p)) (hb : IntBox wr p cc) (hr : r ≠ 0) (o : Obj) : CountPost w p r c n ((wr.setCell ⟨p, 0, none⟩ (.int .i64 (cc + 1))).alloc o) :=
  ⟨⟨_, (count_step hg hb o).1, fun h => absurd h hr⟩, (count_step hg hb o).2⟩
theorem kids_step {wr : World} {p : Nat} {_t cc : Int} {ka : Option Addr} {kc : Nat} {k : Ns} (h6 : k.len ≤ kc) (h7 : kc ≤ maxLen) (h8 : k.len ≤ 2513169434843)
    (h9 : 0 < k.len → ∃ b' off', ka = some ⟨b', off', none⟩ ∧ (b' < wr.heap.size ∧ b' ≠ p) ∧ b' < wr.heap.size ∧ NsAt wr (fun b => b < wr.heap.size ∧ b ≠ p) k b' off') (hb : IntBox wr p cc) (o : Obj) :
    NsS ((wr.setCell ⟨p, 0, none⟩ (.int .i64 (cc + 1))).alloc o) (fun b => b < ((wr.setCell ⟨p, 0, none⟩ (.int .i64 (cc + 1))).alloc o).heap.size ∧ b ≠ p) (.slice ka k.len kc) k :=
  NsS.grown ⟨ka, kc, rfl, h6, h7, h8, h9⟩ (count_step (World.grownBy.refl wr _) hb o).2
theorem NsAt.keep' {wr w2 : World} {p : Nat} {cc : Int} {r : Ns} {b off : Nat} (h : NsAt wr (fun b => b < wr.heap.size ∧ b ≠ p) r b off) (hbp : b ≠ p) (hbl : b < wr.heap.size) (hb : IntBox wr p cc) (o : Obj)
    (hg : ((wr.setCell ⟨p, 0, none⟩ (.int .i64 (cc + 1))).alloc o).grownBy w2 (some p)) : NsAt w2 (fun b => b < w2.heap.size ∧ b ≠ p) r b off :=
  h.grown hbp hbl (only_trans (count_step (World.grownBy.refl wr _) hb o).2 hg)
end Go.Proofs.YtnogcnmoeekcpaaDoor
