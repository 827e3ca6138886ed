/- Words: what stands through calls that turn the dice alone. -/
import Derived.Test.YtljalnfjneeieaaDice2
import Derived.Test.YtljalnfjneeieaaTlvF
namespace Go.Proofs.Ytljalnfjneeieaa
open Go.RowKit Go.Deep

theorem NodesOut.okay {r : Except Int Ns} {w : World} {e : Ending} {w' : World} (h : NodesOut r w e w') {L : Ns} (h1 : r = .ok L) : ∃ a c, e = .returned (.tuple #[.slice a L.len c, .int .i64 0]) ∧ NsS w' (New w w') (.slice a L.len c) L ∧ Below w.heap.size w w' := by subst h1; exact NodesOut.got h
theorem NsS.old {w w' : World} {S : Nat → Prop} {v : Value} {l : Ns} (h : NsS w S v l) (hb : Below w.heap.size w w') : NsS w' S v l := h.keep fun b hs hl => ⟨hb.block b hl, hs⟩
theorem BsS.size {w : World} {S : Nat → Prop} {v : Value} {l : List UInt8} (h : BsS w S v l) : BsS w (· < w.heap.size) v l := h.keep fun b _ hl => ⟨rfl, hl⟩
theorem NsS.size {w : World} {S : Nat → Prop} {v : Value} {l : Ns} (h : NsS w S v l) : NsS w (· < w.heap.size) v l := h.keep fun b _ hl => ⟨rfl, hl⟩
/-- A call that turns the dice alone. -/
theorem NsS.dice {B n : Nat} {w w' : World} {p : Nat} {v : Value} {l : Ns} (h : NsS w (fun b => b < w.heap.size ∧ b ≠ p) v l) (hd : DiePost B w p n w') : NsS w' (fun b => b < w'.heap.size ∧ b ≠ p) v l :=
  h.keep fun b hs hl => ⟨hd.2.block b hl (by intro e; injection e with e; exact hs.2 e), Nat.lt_of_lt_of_le hl hd.2.size, hs.2⟩
theorem BsS.dice {B n : Nat} {w w' : World} {p : Nat} {v : Value} {l : List UInt8} (h : BsS w (fun b => b < w.heap.size ∧ b ≠ p) v l) (hd : DiePost B w p n w') : BsS w' (fun b => b < w'.heap.size ∧ b ≠ p) v l :=
  h.keep fun b hs hl => ⟨hd.2.block b hl (by intro e; injection e with e; exact hs.2 e), Nat.lt_of_lt_of_le hl hd.2.size, hs.2⟩
theorem NsS.on {w w' : World} {p : Nat} {v : Value} {l : Ns} (h : NsS w (fun b => b < w.heap.size ∧ b ≠ p) v l) (hb : Below w.heap.size w w') : NsS w' (fun b => b < w'.heap.size ∧ b ≠ p) v l :=
  h.keep fun b hs hl => ⟨hb.block b hl, Nat.lt_of_lt_of_le hl hb.size, hs.2⟩
theorem BsS.on {w w' : World} {p : Nat} {v : Value} {l : List UInt8} (h : BsS w (fun b => b < w.heap.size ∧ b ≠ p) v l) (hb : Below w.heap.size w w') : BsS w' (fun b => b < w'.heap.size ∧ b ≠ p) v l :=
  h.keep fun b hs hl => ⟨hb.block b hl, Nat.lt_of_lt_of_le hl hb.size, hs.2⟩
theorem NsS.made {w w' : World} {p : Nat} {v : Value} {l : Ns} (h : NsS w' (New w w') v l) (hp : p < w.heap.size) : NsS w' (fun b => b < w'.heap.size ∧ b ≠ p) v l :=
  h.keep fun b hs hl => ⟨rfl, hl, by have := hs.1; omega⟩
theorem BsS.made {w w' : World} {p : Nat} {v : Value} {l : List UInt8} (h : BsS w' (New w w') v l) (hp : p < w.heap.size) : BsS w' (fun b => b < w'.heap.size ∧ b ≠ p) v l :=
  h.keep fun b hs hl => ⟨rfl, hl, by have := hs.1; omega⟩
end Go.Proofs.Ytljalnfjneeieaa
