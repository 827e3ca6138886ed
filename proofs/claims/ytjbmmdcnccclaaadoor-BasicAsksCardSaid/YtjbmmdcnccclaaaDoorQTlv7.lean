/- Layer 2: the shortest form of a length, the reference's side. -/
import Derived.Test.YtjbmmdcnccclaaaDoorTlv1
import Derived.Deep.LoopGhost
import Derived.Deep.Cut
import Derived.Deep.QuietTactic
import Derived.BigQuiet
import Derived.Deep.DeepMust
import Derived.Test.YtjbmmdcnccclaaaDoorVals
import Derived.Test.YtjbmmdcnccclaaaDoorClone
import Derived.BigRegion
import Derived.Test.YtjbmmdcnccclaaaDoorAppB
import Derived.Laws.Bits64b
namespace Go.Proofs.YtjbmmdcnccclaaaDoor
open Go.RowKit

/-- A length in shortest form, up to 65535. -/
def lenR (n : Nat) : List UInt8 := if n ≤ 127 then [ofI n] else if n ≤ 255 then [129, ofI n] else [130, ofI ((n : Int) / 256), ofI n]
theorem lit_new (w : World) (l : List UInt8) (t : TypeId) (hl : l.length ≤ 140737488355328) (c : Array Value) (hc : c = (l.map U8).toArray) :
    BsS (w.alloc (.cells c t)) (New w (w.alloc (.cells c t))) (.slice (some ⟨w.heap.size, 0, none⟩) l.length l.length) l := by
  subst hc
  refine ⟨_, _, rfl, Nat.le_refl _, by omega, hl, fun _ => ⟨_, _, rfl, ⟨Nat.le_refl _, by simp⟩, fun j hj => ?_⟩⟩
  rw [Nat.zero_add, cell_of_row _ _ _ _ _ _ (heap_alloc_new _ _)]
  exact (List.getElem?_toArray ..).trans (mapU8_get l j hj)
end Go.Proofs.YtjbmmdcnccclaaaDoor
/- Layer 2: the walks of check, both sides. -/
namespace Go.Proofs.YtjbmmdcnccclaaaDoor
open Go.RowKit Go.Deep

/-- A block of one int cell. -/
abbrev IntBox (w : World) (p : Nat) (c : Int) : Prop := w.heap[p]? = some (.cells #[.int .i64 c] 3 (0, 0))
/-- What check leaves of its count. -/
def CountPost (w : World) (p : Nat) (r c n : Int) (w' : World) : Prop := (∃ c', IntBox w' p c' ∧ (r = 0 → c' = c + n)) ∧ w.grownBy w' (some p)
theorem chk_stay (t : Int) (v : List UInt8) (k r : Ns) (d : Nat) (h1 : tagV t = true) (h2 : ¬ ((tagC t = false ∧ 0 < k.len) ∨ (tagC t = true ∧ 0 < v.length))) (h3 : d ≤ 8) (h4 : k.chk (d + 1) = 0) : (Ns.cons t v k r).chk d = r.chk d := by
  rw [Ns.chk, if_neg (by rw [h1]; decide), if_neg h2, if_neg (by omega), if_pos h4]
theorem BsS.form2 {w : World} {S : Nat → Prop} {v : Value} {l : List UInt8} (h : BsS w S v l) : ∃ A c, v = .slice A l.length c := by
  obtain ⟨a, c, hv, _⟩ := h; exact ⟨a, c, hv⟩
theorem NsAt.zero {w : World} {S : Nat → Prop} {L : Ns} {a : Option Addr} {b off : Nat} {X : Prop} (h : 0 < L.len → a = some ⟨b, off, none⟩ ∧ X ∧ NsAt w S L b off) : NsAt w S L b off := by
  cases L with
  | nil => trivial
  | cons t v k r => exact (h (by simp [Ns.len])).2.2
theorem NsAt.alloc {w : World} {S : Nat → Prop} {L : Ns} {b off : Nat} (h : NsAt w S L b off) (hb : S b) (hl : b < w.heap.size) (o : Obj) : NsAt (w.alloc o) S L b off :=
  NsAt.keep (fun b hs hl => ⟨Below.heap_alloc w o b hl, hs⟩) L b off hb hl h
theorem NsAt.grown {w w' : World} {p : Nat} {L : Ns} {b off : Nat} (h : NsAt w (fun b => b < w.heap.size ∧ b ≠ p) L b off) (hb : b ≠ p) (hl : b < w.heap.size) (hg : w.grownBy w' (some p)) : NsAt w' (fun b => b < w'.heap.size ∧ b ≠ p) L b off :=
  NsAt.keep (fun b hs hl => ⟨hg.block b hl (by intro e; injection e; exact hs.2 (by omega)), ⟨Nat.lt_of_lt_of_le hl hg.size, hs.2⟩⟩) L b off ⟨hl, hb⟩ hl h
theorem NsS.grown {w w' : World} {p : Nat} {L : Ns} {v : Value} (h : NsS w (fun b => b < w.heap.size ∧ b ≠ p) v L) (hg : w.grownBy w' (some p)) : NsS w' (fun b => b < w'.heap.size ∧ b ≠ p) v L :=
  h.keep (fun b hs hl => ⟨hg.block b hl (by intro e; injection e; exact hs.2 (by omega)), ⟨Nat.lt_of_lt_of_le hl hg.size, hs.2⟩⟩)
theorem IntBox.cell {w : World} {p : Nat} {c : Int} (h : IntBox w p c) : w.cell? ⟨p, 0, none⟩ = some (.int .i64 c) := by rw [cell_of_row _ _ _ _ _ _ h]; rfl
theorem IntBox.lt {w : World} {p : Nat} {c : Int} (h : IntBox w p c) : p < w.heap.size := (Array.getElem?_eq_some_iff.1 h).1
theorem IntBox.alloc {w : World} {p : Nat} {c : Int} (h : IntBox w p c) (o : Obj) : IntBox (w.alloc o) p c := (Below.heap_alloc w o p h.lt).trans h
theorem IntBox.set {w : World} {p : Nat} {c : Int} (h : IntBox w p c) (n : Int) : IntBox (w.setCell ⟨p, 0, none⟩ (.int .i64 n)) p n :=
  one_setCell h
theorem chk_good (t : Int) (v : List UInt8) (k r : Ns) (d : Nat) (h1 : tagV t = true) (h2 : ¬ ((tagC t = false ∧ 0 < k.len) ∨ (tagC t = true ∧ 0 < v.length))) : (Ns.cons t v k r).chk d = if 8 < d then 7 else if k.chk (d + 1) = 0 then r.chk d else k.chk (d + 1) := by
  rw [Ns.chk, if_neg (by rw [h1]; decide), if_neg h2]
theorem count_step {w wr : World} {p : Nat} {cc : Int} (hg : w.grownBy wr (some p)) (hb : IntBox wr p cc) (o : Obj) :
    IntBox ((wr.setCell ⟨p, 0, none⟩ (.int .i64 (cc + 1))).alloc o) p (cc + 1) ∧ w.grownBy ((wr.setCell ⟨p, 0, none⟩ (.int .i64 (cc + 1))).alloc o) (some p) :=
  ⟨(hb.set _).alloc o, only_alloc (only_setCell hg (.inl rfl) _) o⟩
theorem count_err {w wr : World} {p : Nat} {cc r c n : Int} (hg : w.grownBy wr (some p)) (hb : IntBox wr p cc) (hr : r ≠ 0) (o : Obj) : CountPost w p r c n ((wr.setCell ⟨p, 0, none⟩ (.int .i64 (cc + 1))).alloc o) :=
  ⟨⟨_, (count_step hg hb o).1, fun h => absurd h hr⟩, (count_step hg hb o).2⟩
theorem kids_step {wr : World} {p : Nat} {_t cc : Int} {ka : Option Addr} {kc : Nat} {k : Ns} (h6 : k.len ≤ kc) (h7 : kc ≤ maxLen) (h8 : k.len ≤ 2513169434843)
    (h9 : 0 < k.len → ∃ b' off', ka = some ⟨b', off', none⟩ ∧ (b' < wr.heap.size ∧ b' ≠ p) ∧ b' < wr.heap.size ∧ NsAt wr (fun b => b < wr.heap.size ∧ b ≠ p) k b' off') (hb : IntBox wr p cc) (o : Obj) :
    NsS ((wr.setCell ⟨p, 0, none⟩ (.int .i64 (cc + 1))).alloc o) (fun b => b < ((wr.setCell ⟨p, 0, none⟩ (.int .i64 (cc + 1))).alloc o).heap.size ∧ b ≠ p) (.slice ka k.len kc) k :=
  NsS.grown ⟨ka, kc, rfl, h6, h7, h8, h9⟩ (count_step (World.grownBy.refl wr _) hb o).2
theorem NsAt.keep' {wr w2 : World} {p : Nat} {cc : Int} {r : Ns} {b off : Nat} (h : NsAt wr (fun b => b < wr.heap.size ∧ b ≠ p) r b off) (hbp : b ≠ p) (hbl : b < wr.heap.size) (hb : IntBox wr p cc) (o : Obj)
    (hg : ((wr.setCell ⟨p, 0, none⟩ (.int .i64 (cc + 1))).alloc o).grownBy w2 (some p)) : NsAt w2 (fun b => b < w2.heap.size ∧ b ≠ p) r b off :=
  h.grown hbp hbl (only_trans (count_step (World.grownBy.refl wr _) hb o).2 hg)
end Go.Proofs.YtjbmmdcnccclaaaDoor
/- slices.Reverse of a row of bytes of the call's own. -/
namespace Go.Proofs.YtjbmmdcnccclaaaDoor
open Go.RowKit Go.Deep

/-- The first i and the last i of n places are exchanged. -/
def revF (n i : Nat) (f : Nat → UInt8) (j : Nat) : UInt8 := if j < i ∨ n ≤ i + j then f (n - 1 - j) else f j
theorem revF_zero (n : Nat) (f : Nat → UInt8) : vals n (revF n 0 f) = vals n f := vals_congr fun j hj => by unfold revF; rw [if_neg (by omega)]
theorem revF_done (n i : Nat) (f : Nat → UInt8) (h : n ≤ 2 * i + 1) : vals n (revF n i f) = vals n fun j => f (n - 1 - j) := vals_congr fun j hj => by
  unfold revF
  by_cases e : j < i ∨ n ≤ i + j
  · rw [if_pos e]
  · rw [if_neg e]; congr 1; omega
theorem revF_step (n i : Nat) (f : Nat → UInt8) (h : 2 * i + 1 < n) : ((vals n (revF n i f)).set i (U8 (revF n i f (n - 1 - i)))).set (n - 1 - i) (U8 (revF n i f i)) = vals n (revF n (i + 1) f) := by
  rw [vals_set, vals_set]
  refine vals_congr fun j hj => ?_
  unfold revF
  by_cases e1 : j = n - 1 - i
  · rw [if_pos e1, if_neg (by omega), if_pos (by omega)]; congr 1; omega
  · rw [if_neg e1]
    by_cases e2 : j = i
    · rw [if_pos e2, if_neg (by omega), if_pos (by omega)]; congr 1; omega
    · rw [if_neg e2]
      by_cases e3 : j < i ∨ n ≤ i + j
      · rw [if_pos e3, if_pos (by omega)]
      · rw [if_neg e3, if_neg (by omega)]
end Go.Proofs.YtjbmmdcnccclaaaDoor
/- Layer 2: the walk of length. -/
namespace Go.Proofs.YtjbmmdcnccclaaaDoor
open Go.RowKit Go.Deep

theorem leN_zero (f : Nat) : leN f 0 = [] := by cases f <;> rfl
theorem leN_pos (f n : Nat) (h : 0 < n) : leN (f + 1) n = ofI n :: leN f (n / 256) := by rw [leN, if_neg (by omega)]
theorem leN_len (f n : Nat) : (leN f n).length ≤ f := by
  induction f generalizing n with
  | zero => simp [leN]
  | succ f ih => rw [leN]; split <;> simp; exact ih _
theorem bList_rev (l : List UInt8) (n : Nat) (h : l.length = n) : bList n (fun j => gb l (n - 1 - j)) = l.reverse := by
  subst h
  apply List.ext_getElem
  · simp [bList]
  · intro i h1 h2
    have h3 : i < l.length := by simpa [bList] using h1
    simp [gb, bList, List.getElem_reverse]
    rw [List.getElem?_eq_getElem (by omega)]; rfl
theorem lenG_big (n : Nat) (h : ¬ n < 128) : lenG n = (leN 8 n ++ [ofI (128 + (leN 8 n).length)]).reverse := by
  unfold lenG; rw [if_neg h]; simp
theorem or128 (n : Nat) (h : n ≤ 8) : (128 : UInt8) ||| ofI (n : Int) = ofI (128 + (n : Int)) := by
  have : (List.range 9).all (fun n => ((128 : UInt8) ||| ofI (n : Int)) == ofI (128 + (n : Int))) = true := by decide +kernel
  exact eq_of_beq (List.all_eq_true.1 this n (List.mem_range.2 (by omega)))
end Go.Proofs.YtjbmmdcnccclaaaDoor
/- Layer 2: the walk of write. -/
namespace Go.Proofs.YtjbmmdcnccclaaaDoor
open Go.RowKit Go.Deep

/-- Bytes that lie in a block beside the row v. -/
abbrev Beside (w : World) (v x : Value) (l : List UInt8) : Prop := BsS w (fun b => b < w.heap.size ∧ v.ownBlock ≠ some b) x l
theorem Beside.grew {w w' : World} {base : Nat} {v v' x : Value} {l m : List UInt8} (h : Beside w v x l) (hg : Grew w w' base v v' m) : Beside w' v' x l :=
  h.keep fun b hs hl => ⟨hg.2.2.1.block b hl (fun e => hs.2 e.symm), Nat.lt_of_lt_of_le hl hg.2.2.1.size, fun e => (hg.2.2.2 b e).elim hs.2 fun h' => by omega⟩
theorem Beside.below {w w' : World} {v x : Value} {l : List UInt8} (h : Beside w v x l) (hb : Below w.heap.size w w') : Beside w' v x l :=
  h.keep fun b hs hl => ⟨hb.block b hl, Nat.lt_of_lt_of_le hl hb.size, hs.2⟩
theorem Beside.alloc {w : World} {v x : Value} {l : List UInt8} (h : Beside w v x l) (o : Obj) : Beside (w.alloc o) v x l := h.below ((Below.refl _ _).alloc (Nat.le_refl _) o)
theorem Beside.old {w : World} {v x : Value} {l : List UInt8} {B : Nat} {e n size : Nat} {xs : List Value} (h : BsS w (· < B) x l) (ho : w.ownsRow B e size v n xs) : Beside w v x l :=
  h.keep fun b hs hl => ⟨rfl, hl, fun e => by have := (ho.lt b e).1; omega⟩
theorem Beside.new {w w1 : World} {v x : Value} {l : List UInt8} {B : Nat} {e n size : Nat} {xs : List Value} (h : BsS w1 (New w w1) x l) (ho : w.ownsRow B e size v n xs) : Beside w1 v x l :=
  h.keep fun b hs hl => ⟨rfl, hl, fun e => by have := (ho.lt b e).2; omega⟩
/-- What stands between the steps of write: the row that grows, the content beside it, and the object that is written, in a block of its own. -/
def WSt (w wi : World) (o : Value) (l : List UInt8) (cv : Value) (c : List UInt8) (X : Nat) (x : Obj) : Prop := OwnB wi w.heap.size o l ∧ Beside wi o cv c ∧ Below w.heap.size w wi ∧ wi.heap[X]? = some x ∧ o.ownBlock ≠ some X
theorem WSt.grew {w wi wj : World} {o o' cv : Value} {l l' c : List UInt8} {X : Nat} {x : Obj} (h : WSt w wi o l cv c X x) (g : Grew wi wj w.heap.size o o' l') : WSt w wj o' l' cv c X x := by
  obtain ⟨h1, h2, h3, h4, h5⟩ := h
  have hl := (Array.getElem?_eq_some_iff.1 h4).1
  exact ⟨g.1, h2.grew g, h3.trans g.2.1, (g.2.2.1.block X hl (fun e => h5 e.symm)).trans h4, fun e => (g.2.2.2 X e).elim h5 fun h' => by omega⟩
theorem WSt.call {w wi wj : World} {o cv : Value} {l c : List UInt8} {X : Nat} {x : Obj} (h : WSt w wi o l cv c X x) (g : Below wi.heap.size wi wj) : WSt w wj o l cv c X x := by
  obtain ⟨h1, h2, h3, h4, h5⟩ := h
  have hl := (Array.getElem?_eq_some_iff.1 h4).1
  exact ⟨own_below h1 g, h2.below g, h3.trans (g.mono h3.size), (g.block X hl).trans h4, h5⟩
theorem WSt.tagc {w wi : World} {o cv : Value} {l c : List UInt8} {X : Nat} {t v k : Value} {ty : TypeId} (h : WSt w wi o l cv c X (.cells #[t, v, k] ty)) : wi.cell? ⟨X, 0, none⟩ = some t := by
  rw [cell_of_row _ _ _ _ _ _ h.2.2.2.1]; rfl
theorem WSt.own {w wi : World} {o cv : Value} {l c : List UInt8} {X : Nat} {x : Obj} (h : WSt w wi o l cv c X x) : OwnB wi w.heap.size o l := h.1
theorem WSt.bes {w wi : World} {o cv : Value} {l c : List UInt8} {X : Nat} {x : Obj} (h : WSt w wi o l cv c X x) : Beside wi o cv c := h.2.1
theorem WSt.size {w wi : World} {o cv : Value} {l c : List UInt8} {X : Nat} {x : Obj} (h : WSt w wi o l cv c X x) : w.heap.size ≤ wi.heap.size := h.2.2.1.size
theorem WSt.form {w wi : World} {o cv : Value} {l c : List UInt8} {X : Nat} {x : Obj} (h : WSt w wi o l cv c X x) : ∃ A k, o = .slice A l.length k := h.1.form
theorem write_kids {w wr w1 : World} {oa ca : Option Addr} {oc cc : Nat} {l c : List UInt8} {o : Obj} (ho : OwnB wr w.heap.size (.slice oa l.length oc) l) (hb : Below w.heap.size w wr)
    (hc : BsS w1 (New (wr.alloc o) w1) (.slice ca c.length cc) c) (hbw : Below (wr.alloc o).heap.size (wr.alloc o) w1) : WSt w w1 (.slice oa l.length oc) l (.slice ca c.length cc) c wr.heap.size o :=
  ⟨own_below (ho.alloc o) hbw, Beside.new hc (ho.alloc o), (hb.alloc hb.size o).trans (hbw.mono (Nat.le_trans hb.size (by simp))), (hbw.block _ (by simp)).trans (heap_alloc_new _ _), fun e => by have := (ho.lt _ e).2; omega⟩
theorem write_prim {w wr : World} {oa xa : Option Addr} {oc xc : Nat} {l v : List UInt8} (ho : OwnB wr w.heap.size (.slice oa l.length oc) l) (hb : Below w.heap.size w wr)
    (hx : BsS wr (· < w.heap.size) (.slice xa v.length xc) v) (o : Obj) : WSt w (wr.alloc o) (.slice oa l.length oc) l (.slice xa v.length xc) v wr.heap.size o :=
  ⟨ho.alloc o, (Beside.old hx ho).alloc o, hb.alloc hb.size o, heap_alloc_new _ _, fun e => by have := (ho.lt _ e).2; omega⟩
theorem write_rest {w wr : World} {r : Ns} {b off : Nat} (hbl : b < w.heap.size) (hb : Below w.heap.size w wr) (h : NsAt wr (· < w.heap.size) r b off) : ∀ w6, Below w.heap.size w w6 → NsAt w6 (· < w.heap.size) r b off :=
  fun _ h6 => NsAt.keep (fun i hi _ => ⟨(h6.block i hi).trans (hb.block i hi).symm, hi⟩) r b off hbl (Nat.lt_of_lt_of_le hbl hb.size) h
theorem nameL (l : List UInt8) (n : Nat) (h : l.length ≤ n) : ∃ m, Hid (l = m) ∧ m.length ≤ n := ⟨l, rfl, h⟩
theorem enc_cons (t : Int) (v : List UInt8) (k r : Ns) (c : List UInt8) (hc : c = if tagC t then k.enc else v) : (Ns.cons t v k r).enc = tagB t ++ lenG c.length ++ c ++ r.enc := by subst hc; rfl
theorem lenG_len (n : Nat) : (lenG n).length ≤ 9 := by
  unfold lenG; split
  · simp
  · simp; exact leN_len 8 n
end Go.Proofs.YtjbmmdcnccclaaaDoor
/- Layer 2: the walk of Encode. -/
namespace Go.Proofs.YtjbmmdcnccclaaaDoor
open Go.RowKit Go.Deep

def errOf {α : Type} : Except Int α → Int
  | .error e => e
  | .ok _ => 0
def bytesOf : Except Int (List UInt8) → List UInt8
  | .error _ => []
  | .ok l => l
/-- Bytes in new memory and an error's number. -/
def BytesOut (r : Except Int (List UInt8)) (w : World) (e : Ending) (w' : World) : Prop :=
  ∃ v', e = .returned (.tuple #[v', .int .i64 (errOf r)]) ∧ BsS w' (New w w') v' (bytesOf r) ∧ Below w.heap.size w w'
theorem BytesOut.no {w w' : World} {r : Except Int (List UInt8)} {e : Int} (hr : r = .error e) (hb : Below w.heap.size w w') : BytesOut r w (.returned (.tuple #[.slice none 0 0, .int .i64 e])) w' := by
  subst hr
  exact ⟨_, rfl, ⟨none, 0, rfl, by simp [bytesOf], by simp, by simp [bytesOf], by simp [bytesOf]⟩, hb⟩
theorem BytesOut.yes {w w' : World} {r : Except Int (List UInt8)} {l : List UInt8} {v : Value} (hr : r = .ok l) (hv : BsS w' (New w w') v l) (hb : Below w.heap.size w w') : BytesOut r w (.returned (.tuple #[v, .int .i64 0])) w' := by
  subst hr
  exact ⟨_, rfl, hv, hb⟩
end Go.Proofs.YtjbmmdcnccclaaaDoor
/- Layer 2: the reader behind its pointer, and the walk of its tag. -/
namespace Go.Proofs.YtjbmmdcnccclaaaDoor
open Go.RowKit Go.Deep

theorem or_byte (n b : Nat) (hn : n < 1099511627776) (hb : b < 256) : bits .or .i64 ((n : Int) * 256) (b : Int) = (n : Int) * 256 + b := by
  have h1 : (BitVec.ofInt 64 ((n * 256 : Nat) : Int)).toNat = n * 256 := by
    rw [BitVec.ofInt_natCast, BitVec.toNat_ofNat]; exact Nat.mod_eq_of_lt (by omega)
  have h2 : (BitVec.ofInt 64 (b : Int)).toNat = b := by
    rw [BitVec.ofInt_natCast, BitVec.toNat_ofNat]; exact Nat.mod_eq_of_lt (by omega)
  have h3 : n * 256 ||| b = n * 256 + b := by
    have := Nat.two_pow_add_eq_or_of_lt (i := 8) (b := b) (by omega) n
    rw [Nat.mul_comm] at this
    exact this.symm
  have e : (n : Int) * 256 = ((n * 256 : Nat) : Int) := by omega
  rw [e]
  show IntKind.i64.wrap ((BitVec.ofInt 64 ((n * 256 : Nat) : Int) ||| BitVec.ofInt 64 (b : Int)).toNat : Int) = _
  rw [BitVec.toNat_or, h1, h2, h3, IntKind.wrap_i64]
  omega
/-- The bytes from a place on, up to another one. -/
def rst (B : List UInt8) (a e : Nat) : List UInt8 := (B.take e).drop a
theorem rst_len {B : List UInt8} {a e : Nat} (h : e ≤ B.length) : (rst B a e).length = e - a := by simp [rst]; omega
theorem gb_rst {B : List UInt8} {a e j : Nat} (h : e ≤ B.length) (hj : a + j < e) : gb (rst B a e) j = gb B (a + j) := by
  have h1 : a + j < B.length := by omega
  unfold gb rst
  rw [List.getD_eq_getElem?_getD, List.getD_eq_getElem?_getD, List.getElem?_drop, List.getElem?_take, if_pos hj]
theorem rst_drop (B : List UInt8) (a e k : Nat) : (rst B a e).drop k = rst B (a + k) e := by simp [rst, List.drop_drop]
theorem rst_take (B : List UInt8) (a e n : Nat) (h : a + n ≤ e) : (rst B a e).take n = rst B a (a + n) := by
  unfold rst
  rw [List.take_drop, List.take_take, Nat.min_eq_left h]
theorem set_block {w : World} {g i : Nat} {cs : Array Value} {t : TypeId} (h : w.heap[g]? = some (.cells cs t (0, 0))) (v : Value) : (w.setCell ⟨g, i, none⟩ v).heap[g]? = some (.cells (cs.setIfInBounds i v) t (0, 0)) := by
  have hlt : g < w.heap.size := (Array.getElem?_eq_some_iff.1 h).1
  have h' : w.heap[g] = .cells cs t (0, 0) := by simpa [Array.getElem?_eq_getElem hlt] using h
  show (w.heap.modify g _)[g]? = _
  rw [Array.getElem?_eq_getElem (by simpa using hlt), Array.getElem_modify_self, h']
  rfl
def valOf : Except Int (Int × Nat) → Int
  | .error _ => 0
  | .ok x => x.1
/-- What the walk wants of the bytes: the cell at a place. -/
theorem BsS.cellAt {w : World} {S : Nat → Prop} {A : Option Addr} {n k : Nat} {l : List UInt8} (h : BsS w S (.slice A n k) l) {b off : Nat} (hA : A = some ⟨b, off, none⟩) {j : Nat} (hj : j < l.length) : w.cell? ⟨b, off + j, none⟩ = some (U8 (gb l j)) := by
  obtain ⟨a, c, hv, _, _, _, h4⟩ := h
  injection hv with e _ _
  obtain ⟨b', off', e', _, hc⟩ := h4 (by omega)
  rw [← e, hA] at e'
  injection e' with e'
  injection e' with e1 e2 _
  rw [e1, e2]
  exact hc j hj
end Go.Proofs.YtjbmmdcnccclaaaDoor
