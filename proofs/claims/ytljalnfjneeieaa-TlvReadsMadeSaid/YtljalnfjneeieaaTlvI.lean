/- Layer 2: words for the reference's list. -/
import Derived.Test.YtljalnfjneeieaaTlvH
namespace Go.Proofs.Ytljalnfjneeieaa
open Go.RowKit Go.Deep

def RListOut (r : Except Int Lst) (w : World) (e : Ending) (w' : World) : Prop :=
  match r with
  | .error er => er ≠ 0 ∧ e = .returned (.tuple #[.slice none 0 0, .int .i64 0, .int .i64 0, .int .i64 er]) ∧ Below w.heap.size w w'
  | .ok o => ∃ v, e = .returned (.tuple #[v, .int .i64 (o.used : Int), .int .i64 (o.count : Int), .int .i64 0]) ∧ NsS w' (New w w') v o.list ∧ Below w.heap.size w w'
def RListC (n : Nat) (op : Bool) : Prop := ∀ (l : List UInt8) (v : Value) (d c : Nat) (st : Bool) (w : World), Bs w w.heap.size v l → l.length ≤ 4096 → l.length ≤ n → d ≤ 9 → c ≤ 256 →
  Calls Try.prog 46 #[v, .int .i64 d, .int .i64 c, .bool st, .bool op] w (RListOut (listP st n l d c op) w)
/-- A slice from a place on; where the address stands at the array's end, A is whatever the model keeps. -/
theorem cutFrom {w : World} {S : Nat → Prop} {bb bo n bc : Nat} {l : List UInt8} (h : BsS w S (.slice (some ⟨bb, bo, none⟩) n bc) l) (g : Nat) (hg : g ≤ l.length) {A : Option Addr} (hA : (if bc = g then some (⟨bb, bo, none⟩ : Addr) else some ⟨bb, bo + g, none⟩) = A) :
    BsS w S (.slice A (l.length - g) (bc - g)) (l.drop g) := by
  subst hA
  obtain ⟨a, c, hv, h1, h2, h3, h4⟩ := h
  injection hv with ha hn hc
  subst ha hc hn
  refine ⟨_, bc - g, by rw [List.length_drop], by rw [List.length_drop]; omega, by omega, by rw [List.length_drop]; omega, fun hp => ?_⟩
  rw [List.length_drop] at hp
  obtain ⟨b', off', e, hb, hcell⟩ := h4 (by omega)
  injection e with e
  injection e with e1 e2
  subst e1 e2
  rw [if_neg (by omega)]
  refine ⟨bb, bo + g, rfl, hb, fun j hj => ?_⟩
  rw [List.length_drop] at hj
  rw [Nat.add_assoc, hcell (g + j) (by omega)]
  congr 2
  unfold gb
  rw [List.getD_eq_getElem?_getD, List.getD_eq_getElem?_getD, List.getElem?_drop]
theorem cutPart {w : World} {S : Nat → Prop} {bb bo n bc : Nat} {l : List UInt8} (h : BsS w S (.slice (some ⟨bb, bo, none⟩) n bc) l) (g u : Nat) (hg : g + u ≤ l.length) {A : Option Addr} (hA : (if bc = g then some (⟨bb, bo, none⟩ : Addr) else some ⟨bb, bo + g, none⟩) = A) :
    BsS w S (.slice A u (bc - g)) ((l.drop g).take u) := by
  have := cutMid h g u hg
  rw [hA, Nat.add_sub_cancel_left] at this
  have e : rst l g (g + u) = (l.drop g).take u := by unfold rst; rw [List.take_drop]
  rwa [e] at this
theorem cutGen {w : World} {S : Nat → Prop} {bb bo n bc : Nat} {l : List UInt8} (h : BsS w S (.slice (some ⟨bb, bo, none⟩) n bc) l) (g : Nat) (hg : g ≤ l.length) {A : Option Addr} {N C : Nat} (hA : g < l.length → A = some ⟨bb, bo + g, none⟩) (hN : N = l.length - g) (hC : N ≤ C ∧ C ≤ 9223372036854775807) :
    BsS w S (.slice A N C) (l.drop g) := by
  have h0 := cutFrom h g hg rfl
  obtain ⟨a, c, hv, h1, h2, h3, h4⟩ := h0
  refine ⟨A, C, by rw [hN, List.length_drop], by rw [List.length_drop]; omega, hC.2, h3, fun hp => ?_⟩
  obtain ⟨b, off, ha, hs, hc⟩ := h4 hp
  rw [List.length_drop] at hp
  have hbc := h.capOf
  have hlen := Bs.lenEq h
  rw [if_neg (by omega)] at hv
  injection hv with e1 _ _
  exact ⟨b, off, by rw [hA (by omega), e1, ha], hs, hc⟩
theorem cutGenP {w : World} {S : Nat → Prop} {bb bo n bc : Nat} {l : List UInt8} (h : BsS w S (.slice (some ⟨bb, bo, none⟩) n bc) l) (g u : Nat) (hg : g + u ≤ l.length) {A : Option Addr} {N C : Nat} (hA : 0 < u → A = some ⟨bb, bo + g, none⟩) (hN : N = u) (hC : N ≤ C ∧ C ≤ 9223372036854775807) :
    BsS w S (.slice A N C) ((l.drop g).take u) := by
  have h0 := cutPart h g u hg rfl
  have hl : ((l.drop g).take u).length = u := by rw [List.length_take, List.length_drop]; omega
  obtain ⟨a, c, hv, h1, h2, h3, h4⟩ := h0
  refine ⟨A, C, by rw [hN, hl], by rw [hl]; omega, hC.2, h3, fun hp => ?_⟩
  obtain ⟨b, off, ha, hs, hc⟩ := h4 hp
  rw [hl] at hp
  have hbc := h.capOf
  have hlen := Bs.lenEq h
  rw [if_neg (by omega)] at hv
  injection hv with e1 _ _
  exact ⟨b, off, by rw [hA hp, e1, ha], hs, hc⟩
theorem quiet_of_drew {P : Program} {f : FuncId} {args : Array Value} {w : World} {n : Nat} {v : Value}
    (h : Calls P f args (w.drewN n) fun e w' => e = .returned v ∧ ∃ m, w' = (w.drewN n).drewN m) : Calls P f args (w.drewN n) fun e w'' => e = .returned v ∧ ∃ m, w'' = w.drewN m :=
  h.mono fun _ _ ⟨he, m, hm⟩ => ⟨he, n + m, by rw [hm, World.drewN_drewN]⟩
theorem tripE {er : Int} : tripOf (.error er) = .tuple #[.int .i64 0, .int .i64 0, .int .i64 er] := rfl
theorem tripO {n : Int} {k : Nat} : tripOf (.ok (n, k)) = .tuple #[.int .i64 n, .int .i64 (k : Int), .int .i64 0] := rfl
theorem RListOut.no {r : Except Int Lst} {w w' : World} {er : Int} (hr : r = .error er) (ne : er ≠ 0) (hb : Below w.heap.size w w') : RListOut r w (.returned (.tuple #[.slice none 0 0, .int .i64 0, .int .i64 0, .int .i64 er])) w' := by subst hr; exact ⟨ne, rfl, hb⟩
theorem RListOut.yes {r : Except Int Lst} {w w' : World} {L : Ns} {u c : Nat} {o : Value} {un cn : Int} (hr : r = .ok ⟨L, u, c⟩) (hu : un = u) (hc : cn = c) (ho : OwnN w' w.heap.size o L) (hl : L.len ≤ 2513169434843) (hb : Below w.heap.size w w') :
    RListOut r w (.returned (.tuple #[o, .int .i64 un, .int .i64 cn, .int .i64 0])) w' := by subst hr hu hc; exact ⟨_, rfl, ho.nss hl, hb⟩
theorem drop_empty {l : List UInt8} {u : Nat} (h : l.length ≤ u) : (l.drop u).length = 0 := by rw [List.length_drop]; omega
theorem gb_drop (l : List UInt8) (u j : Nat) : gb (l.drop u) j = gb l (u + j) := by unfold gb; rw [List.getD_eq_getElem?_getD, List.getD_eq_getElem?_getD, List.getElem?_drop]
theorem below_drews (w : World) (n : Nat) : Below w.heap.size w (w.drewN n) := below_drewN (Below.refl _ _) n
theorem set_new {w wi : World} {B X : Nat} (h : Below B w wi) (hX : B ≤ X) (i : Nat) (v : Value) : Below B w (wi.setCell ⟨X, i, none⟩ v) := h.setCell hX v
theorem kids_off {wr w3 w4 : World} {base X : Nat} {o : Value} {L k : Ns} (ho : OwnN wr base o L) (h4 : Below w3.heap.size w3 w4) (h3 : Below wr.heap.size wr w3) (hX : X < w3.heap.size) (hXr : wr.heap.size ≤ X) (hb : base ≤ wr.heap.size) (v : Value) (h : NsS w4 (New w3 w4) v k) :
    NsS (w4.setCell ⟨X, 2, none⟩ v) (OffN base (w4.setCell ⟨X, 2, none⟩ v) o) v k :=
  h.keep fun b hs hl => ⟨Below.heap_setCell _ _ _ _ (by have := hs.1; show b ≠ X; omega), by simpa [World.setCell] using hl, fun e => by have := (ho.lt e).2; have := hs.1; omega, by have := hs.1; omega⟩
theorem bytes_off {wr w3 w4 : World} {base X : Nat} {o : Value} {L : Ns} {k : List UInt8} (ho : OwnN wr base o L) (h4 : Below w3.heap.size w3 w4) (h3 : Below wr.heap.size wr w3) (hX : X < w3.heap.size) (hXr : wr.heap.size ≤ X) (hb : base ≤ wr.heap.size) (v : Value) (h : BsS w4 (fun b => w3.heap.size ≤ b ∧ b < w4.heap.size) v k) :
    BsS (w4.setCell ⟨X, 1, none⟩ v) (OffN base (w4.setCell ⟨X, 1, none⟩ v) o) v k :=
  h.keep fun b hs hl => ⟨Below.heap_setCell _ _ _ _ (by have := hs.1; show b ≠ X; omega), by simpa [World.setCell] using hl, fun e => by have := (ho.lt e).2; have := hs.1; omega, by have := hs.1; omega⟩
end Go.Proofs.Ytljalnfjneeieaa
