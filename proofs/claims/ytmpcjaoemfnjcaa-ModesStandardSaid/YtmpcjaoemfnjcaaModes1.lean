/- The walks of the small functions of the package modes: combine, arguments. -/
import Derived.Test.YtmpcjaoemfnjcaaLaw5a
import Derived.StillTailTactics
import Derived.Deep.QuietTactic
import Derived.BigQuiet
import Derived.Laws.OwnMore
namespace Go.Proofs.Ytmpcjaoemfnjcaa
open Go.RowKit

theorem Bs.lenEq {w : World} {S : Nat → Prop} {A : Option Addr} {n c : Nat} {l : List UInt8} (h : BsS w S (.slice A n c) l) : n = l.length := by
  obtain ⟨_, _, hv, _⟩ := h; injection hv
/-- n values as a list. -/
def vals (n : Nat) (f : Nat → UInt8) : List Value := (List.range n).map fun j => U8 (f j)
theorem vals_get (n : Nat) (f : Nat → UInt8) (j : Nat) (h : j < n) : (vals n f)[j]? = some (U8 (f j)) := by simp [vals, h]
theorem vals_set (n : Nat) (f : Nat → UInt8) (j : Nat) (b : UInt8) : (vals n f).set j (U8 b) = vals n fun i => if i = j then b else f i := by
  apply List.ext_getElem?
  intro i
  rw [List.getElem?_set]
  by_cases hi : i < n
  · by_cases h : j = i
    · subst h; simp [vals, hi]
    · rw [if_neg h, vals_get n f i hi, vals_get n _ i hi, if_neg (fun e => h e.symm)]
  · have e1 : (vals n fun i => if i = j then b else f i)[i]? = none := List.getElem?_eq_none (by simp [vals]; omega)
    rw [e1]
    split
    · rw [if_neg (by simp [vals]; omega)]
    · exact List.getElem?_eq_none (by simp [vals]; omega)
theorem vals_of (l : List UInt8) (n : Nat) (h : l.length = n) : l.map U8 = vals n (gb l) := by
  subst h
  apply List.ext_getElem?
  intro i
  rcases Nat.lt_or_ge i l.length with hi | hi
  · rw [mapU8_get l i hi, vals_get _ _ _ hi]
  · rw [List.getElem?_eq_none (by simpa using hi), List.getElem?_eq_none (by simpa [vals] using hi)]
theorem vals_bList (n : Nat) (f : Nat → UInt8) : vals n f = (bList n f).map U8 := by simp [vals, bList]
theorem vals_congr {n : Nat} {f g : Nat → UInt8} (h : ∀ j, j < n → f j = g j) : vals n f = vals n g := by
  unfold vals; exact List.map_congr_left fun j hj => by rw [h j (by simpa using hj)]
theorem vals_upto (n k : Nat) (new old : Nat → UInt8) : (vals n (upto k new old)).set k (U8 (new k)) = vals n (upto (k + 1) new old) := by
  rw [vals_set]
  refine vals_congr fun j _ => ?_
  unfold upto
  by_cases e : j = k
  · subst e; rw [if_pos rfl, if_pos (by omega)]
  · rw [if_neg e]
    by_cases e2 : j < k
    · rw [if_pos e2, if_pos (by omega)]
    · rw [if_neg e2, if_neg (by omega)]

/-- The exclusive or of two blocks. -/
def xorL (a b : List UInt8) : List UInt8 := bList 16 fun j => gb a j ^^^ gb b j
theorem xorL_len (a b : List UInt8) : (xorL a b).length = 16 := bList_len _ _
theorem own_form16 {w : World} {base : Nat} {e : TypeId} {v : Value} {n : Nat} {xs : List Value} (h : w.ownsRow base e 1 v n xs) (hn : 0 < n) : ∃ g cap, v = .slice (some ⟨g, 0, none⟩) n cap ∧ base ≤ g ∧ g < w.heap.size ∧ n ≤ cap := by
  obtain ⟨g, cap, rfl, h1, h2⟩ := h.form hn
  exact ⟨g, cap, rfl, h1, h2, (own_cap h).1⟩
set_option maxRecDepth 100000 in
set_option maxHeartbeats 400000 in
theorem combine2_any (va vb : Value) (a b : List UInt8) (ha : a.length = 16) (hb : b.length = 16) (w : World) (hva : Bs w w.heap.size va a) (hvb : Bs w w.heap.size vb b) :
    Calls Try.prog 30 #[va, vb] w fun e w' => ∃ v', e = .returned v' ∧ OwnB w' w.heap.size v' (xorL a b) ∧ Below w.heap.size w w' := by
  obtain ⟨Aa, na, ca, rfl⟩ := hva.form
  have Ha := Lib.hid hva; have La := Lib.hid ha
  obtain ⟨Ab, cb, rfl, hcb, _, _, hcell⟩ := hvb
  obtain ⟨bb, ob, rfl, hbb, hx⟩ := hcell (by omega)
  rw [hb] at hx hcb
  rw [hb]
  have HX := Lib.hid hx
  clear hva hcell hx hb ha
  go_enter Try.func30, Try.ntmps30
  go_wp2_with fail
  refine (clone_any _ a _ Ha.out).mono ?_
  rintro e w1 ⟨v1, rfl, hown, hB⟩
  unfold OwnB at hown
  rw [La.out] at hown
  obtain ⟨g, cap, rfl, hg1, hg2, hcap⟩ := own_form16 hown (by omega)
  rw [vals_of a 16 La.out] at hown
  have Hown := Lib.hid hown; have HB := Lib.hid hB; clear hown hB
  go_wp2
  go_loopw [11] (fun i wr => ∃ n : Nat, n ≤ 16 ∧ i = .int .i64 n ∧ wr.ownsRow w.heap.size 5 1 (.slice (some ⟨g, 0, none⟩) 16 cap) 16 (vals 16 (upto n (fun j => gb a j ^^^ gb b j) (gb a))) ∧ Below w.heap.size w wr) (fun i _ => 16 - (intOf i).toNat)
  case atStart => exact ⟨0, by omega, rfl, by rw [upto_zero]; exact Hown.out, HB.out⟩
  case round =>
    obtain ⟨n, hn, rfl, hown, hB⟩ := hrel
    have Hown2 := Lib.hid hown; have HB2 := Lib.hid hB; clear hown hB
    by_cases hlt : n < 16
    · have hd : decide ((n : Int) < 16) = true := by simp; omega
      have c1 : wr.cell? ⟨g, n, none⟩ = some (U8 (gb a n)) := by rw [Hown2.out.cellAt n (by omega), vals_get _ _ _ hlt, upto_old (Nat.le_refl _)]
      have f1 := Hown2.out.frozenAt n
      have c2 : wr.cell? ⟨bb, ob + n, none⟩ = some (U8 (gb b n)) := (HB2.out.cell (p := ⟨bb, ob + n, none⟩) hbb).trans (HX.out n hlt)
      have n1 : (n : Int) < 16 := by omega
      go_wp2
      refine wp_region_still_tail 10 (by kernel_rfl) (by kernel_rfl) ?_
      simp only [List.take_succ_cons, List.take_zero, List.drop_succ_cons, List.drop_zero]
      repeat (refine wpStill_step (fun K hK => ?_); go_simp; (try go_bits); refine hK _ ?_; clear hK K)
      refine wpStill_nil ?_
      go_wp2
      go_roundw
      case rel =>
        obtain ⟨h1, h2⟩ := Hown2.out.stored n (U8 (gb a n ^^^ gb b n))
        have e := vals_upto 16 n (fun j => gb a j ^^^ gb b j) (gb a)
        rw [e] at h1
        exact ⟨n + 1, by omega, by go_num, h1, HB2.out.drew.setCell (by simpa using hg1) _⟩
      case measure => simp [intOf] <;> omega
    · have hn16 : n = 16 := by omega
      subst hn16
      go_wp2
      go_ret
      refine ⟨_, rfl, ?_, HB2.out⟩
      show World.ownsRow _ _ _ _ _ (xorL a b).length _
      rw [xorL_len]
      unfold xorL
      rw [← vals_bList]
      have e : vals 16 (upto 16 (fun j => gb a j ^^^ gb b j) (gb a)) = vals 16 fun j => gb a j ^^^ gb b j := vals_congr fun j hj => by unfold upto; rw [if_pos hj]
      rw [← e]
      exact Hown2.out

/-- The error that Seal and Open have in common. -/
def argE (k iv b : List UInt8) : Int := if k.length = 16 ∧ iv.length = 16 then (if b.length % 16 = 0 then 0 else 2) else 14
set_option maxHeartbeats 400000 in
theorem arguments_any (A1 A2 A3 : Option Addr) (n1 n2 n3 c1 c2 c3 : Nat) (k iv b : List UInt8) (h1 : n1 = k.length) (h2 : n2 = iv.length) (h3 : n3 = b.length) (w : World) :
    Calls Try.prog 31 #[.slice A1 n1 c1, .slice A2 n2 c2, .slice A3 n3 c3] w fun e w' => e = .returned (.int .i64 (argE k iv b)) ∧ w' = w := by
  have E : Hid (argE k iv b = if n1 = 16 ∧ n2 = 16 then (if n3 % 16 = 0 then 0 else 2) else 14) := by rw [h1, h2, h3]; rfl
  clear h1 h2 h3
  by_cases a : n1 = 16
  · have a' : ((n1 : Int) != 16) = false := by simp; omega
    by_cases b' : n2 = 16
    · have b'' : ((n2 : Int) != 16) = false := by simp; omega
      by_cases d : n3 % 16 = 0
      · have d' : ((n3 : Int) % 16 != 0) = false := by simp; omega
        have E2 : Hid (argE k iv b = 0) := by have := E.out; rwa [if_pos ⟨a, b'⟩, if_pos d] at this
        clear a b' d E
        go_enter Try.func31, Try.ntmps31
        go_wp2
        go_ret
        exact ⟨by rw [E2.out]; rfl, rfl⟩
      · have d' : ((n3 : Int) % 16 != 0) = true := by simp; omega
        have E2 : Hid (argE k iv b = 2) := by have := E.out; rwa [if_pos ⟨a, b'⟩, if_neg d] at this
        clear a b' d E
        go_enter Try.func31, Try.ntmps31
        go_wp2
        go_ret
        exact ⟨by rw [E2.out]; rfl, rfl⟩
    · have b'' : ((n2 : Int) != 16) = true := by simp; omega
      have E2 : Hid (argE k iv b = 14) := by have := E.out; rwa [if_neg (fun h => b' h.2)] at this
      clear a b' E
      go_enter Try.func31, Try.ntmps31
      go_wp2
      go_ret
      exact ⟨by rw [E2.out]; rfl, rfl⟩
  · have a' : ((n1 : Int) != 16) = true := by simp; omega
    have E2 : Hid (argE k iv b = 14) := by have := E.out; rwa [if_neg (fun h => a h.1)] at this
    clear a E
    go_enter Try.func31, Try.ntmps31
    go_wp2
    go_ret
    exact ⟨by rw [E2.out]; rfl, rfl⟩
end Go.Proofs.Ytmpcjaoemfnjcaa
