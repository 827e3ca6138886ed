/- The walks of Pad and Unpad of both sides. -/
import Derived.Test.YtnogcnmoeekcpaaDoorModes1
namespace Go.Proofs.YtnogcnmoeekcpaaDoor
open Go.RowKit

/-- The length of a slice value. -/
def lenV : Value → Nat
  | .slice _ n _ => n
  | _ => 0
theorem run_append_zeros0 {P : Program} (w : World) (base : Nat) (t tn ty e : TypeId) (z : Value) (bytes : Nat) (kq kn : IntKind) (ht : P.underlying t = some (.slice e)) (htn : P.underlying tn = some (.int kn)) (hinfo : (P.info? e).map (fun i => (i.zero, i.size, i.bytes)) = some (some z, 1, bytes))
    (v : Value) (n : Nat) (xs : List Value) (hown : w.ownsRow base e 1 v n xs) : (Builtin.append_ #[t, tn] ty #[v, .int kq 0]).run P w = .ok v w := by
  obtain ⟨i, hi, hzz⟩ := Option.map_eq_some_iff.1 hinfo
  simp only [Prod.mk.injEq] at hzz
  obtain ⟨hz, hsize, hbb⟩ := hzz
  have hw : IntKind.i64.wrap 0 = 0 := by rw [IntKind.wrap_i64]; omega
  rcases hown.2 with ⟨rfl, rfl⟩ | ⟨g, cap, cur, rfl, _, _, hnc, _⟩
  · simp [Builtin.append_, run_underlying ht, run_underlying htn, sizeOf, typeInfo, hi, asInt, asIntOf, hw]
  · simp [Builtin.append_, run_underlying ht, run_underlying htn, sizeOf, typeInfo, hi, asInt, asIntOf, hw, hnc, storeCells]
theorem zerosK {base : Nat} {v : Value} {n : Nat} {xs : List Value} {w : World} (hown : w.ownsRow base 5 1 v n xs) (k : Nat) (hb : n + k ≤ 140737488355328) (hbase : base ≤ w.heap.size) (ty : TypeId) :
    ∃ v' w', (Builtin.append_ #[22, 3] ty #[v, .int .i64 k]).run Tryd.prog w = .ok v' w' ∧ w'.ownsRow base 5 1 v' (n + k) (xs ++ List.replicate k (.int .u8 0)) ∧ w.grownBy w' v.ownBlock := by
  rcases Nat.eq_zero_or_pos k with h | h
  · subst h
    exact ⟨v, w, run_append_zeros0 w base 22 3 ty 5 (.int .u8 0) 1 .i64 .i64 Tryd.underlying22 Tryd.underlying3 infoU8 v n xs hown, by simpa using hown, World.grownBy.refl _ _⟩
  · exact run_append_zeros (P := Tryd.prog) w base 22 3 ty 5 (.int .u8 0) 1 .i64 .i64 Tryd.underlying22 Tryd.underlying3 infoU8 rfl rfl (by omega) v n xs hown k h (by omega) hbase
/-- How many bytes 0 the padding of n bytes ends with. -/
def padN (n : Nat) : Nat := (16 - (n + 1) % 16) % 16
/-- Bytes with their padding. -/
def padL (l : List UInt8) : List UInt8 := l ++ [128] ++ List.replicate (padN l.length) 0
theorem padL_len (l : List UInt8) : (padL l).length = l.length + 1 + padN l.length := by simp [padL]; omega
theorem padL_mod (l : List UInt8) : (padL l).length = 16 * ((l.length + 1 + padN l.length) / 16) := by rw [padL_len]; unfold padN; omega
theorem padN_le (n : Nat) : padN n ≤ 15 := by unfold padN; omega
theorem padL_map (l : List UInt8) : (padL l).map U8 = l.map U8 ++ [.int .u8 128] ++ List.replicate (padN l.length) (.int .u8 0) := by
  unfold padL
  rw [List.map_append, List.map_append, List.map_replicate]
  rfl
set_option maxRecDepth 100000 in
set_option maxHeartbeats 400000 in
theorem pad_own (v : Value) (l : List UInt8) (hl : l.length ≤ 140737488351232) (w : World) (hv : Bs w w.heap.size v l) :
    Calls Tryd.prog 72 #[v] w fun e w' => ∃ v', e = .returned v' ∧ OwnB w' w.heap.size v' (padL l) ∧ Below w.heap.size w w' := by
  have Hv := Lib.hid hv; have Hl := Lib.hid hl; clear hv hl
  go_enter Tryd.func72, Tryd.ntmps72
  go_wp2_with fail
  refine (clone_any _ l _ Hv.out).mono ?_
  rintro e w1 ⟨v1, rfl, hown, hB⟩
  have hown : w1.ownsRow w.heap.size 5 1 v1 l.length (l.map U8) := hown
  have Hown := Lib.hid (hown.alloc (.cells #[Value.int .u8 128] 5)); have HB := Lib.hid hB
  have Hsrc := Lib.hid (show SrcAt (w1.alloc (.cells #[Value.int .u8 128] 5)) (some ⟨w1.heap.size, 0, none⟩) 1 [Value.int .u8 128] from SrcAt.one _ _ rfl)
  have Hbase := Lib.hid (show w.heap.size ≤ (w1.alloc (.cells #[Value.int .u8 128] 5)).heap.size by have := hB.size; simp; omega)
  clear hown hB
  have hk1 : ((padN l.length : Nat) : Int) = (16 - ((l.length : Int) + 1) % 16) % 16 := by unfold padN; omega
  have hk2 : ((padN l.length : Nat) : Int) = -(((l.length : Int) + 1) % 16) % 16 := by unfold padN; omega
  have Hk1 := Lib.hid hk1; have Hk2 := Lib.hid hk2; clear hk1 hk2
  go_wp2_with (first
    | (at_builtin
       (with_reducible refine wpList_append1 _ rfl (.tmp 5) (.tmp 6) 22 rfl w.heap.size 5 (.int .u8 0) 1 Tryd.underlying22 infoU8 rfl (by omega) v1 l.length (l.map U8) rfl Hown.out (some ⟨w1.heap.size, 0, none⟩) 1 1 [.int .u8 128] rfl Hsrc.out (by have := Hl.out; omega) Hbase.out ?_)
       intro v2 w2 hown2 hg2 _ _
       have hb2 := below_append Hown.out hg2 (Nat.le_refl _) Hbase.out
       have hbase2 : w.heap.size ≤ w2.heap.size := Nat.le_trans Hbase.out hb2.size
       obtain ⟨v3, w3, hrun3, hown3, hg3⟩ := zerosK hown2 (padN l.length) (by have := Hl.out; have := padN_le l.length; omega) hbase2 22
       have hb3 := (((HB.out.alloc HB.out.size _).trans hb2).trans (below_append hown2 hg3 (Nat.le_refl _) hbase2))
       obtain ⟨g2, cap2, rfl, _, _, _⟩ := own_form16 hown2 (by omega)
       have hrun4 := hrun3; rw [Hk1.out] at hrun3; rw [Hk2.out] at hrun4; have Hrun3 := Lib.hid hrun3; have Hrun4 := Lib.hid hrun4; clear hrun4; have Hown3 := Lib.hid hown3; have Hb3 := Lib.hid hb3
       clear hown2 hg2 hb2 hbase2 hrun3 hown3 hg3 hb3)
    | (at_builtin
       first
         | (with_reducible refine Lib.wpList_append_run _ rfl (.tmp 8) (.tmp 13) 22 3 rfl (.slice (some ⟨g2, 0, none⟩) (l.length + 1) cap2) (.int .i64 ((16 - ((l.length : Int) + 1) % 16) % 16)) rfl rfl v3 w3 Hrun3.out ?_)
         | (with_reducible refine Lib.wpList_append_run _ rfl (.tmp 8) (.tmp 13) 22 3 rfl (.slice (some ⟨g2, 0, none⟩) (l.length + 1) cap2) (.int .i64 (-(((l.length : Int) + 1) % 16) % 16)) rfl rfl v3 w3 Hrun4.out ?_)))
  go_ret
  refine ⟨v3, rfl, ?_, Hb3.out⟩
  have h := Hown3.out
  rw [← padL_map, ← padL_len] at h
  exact h
theorem pad_any (v : Value) (l : List UInt8) (hl : l.length ≤ 140737488351232) (w : World) (hv : Bs w w.heap.size v l) :
    Calls Tryd.prog 72 #[v] w fun e w' => ∃ v', e = .returned v' ∧ BsS w' (New w w') v' (padL l) ∧ Below w.heap.size w w' :=
  (pad_own v l hl w hv).mono fun _ _ ⟨v', h1, h2, h3⟩ => ⟨v', h1, (BsS.of_own h2 (by rw [padL_len]; have := padN_le l.length; omega)).keep fun _ hg _ => ⟨rfl, hg.1, hg.2⟩, h3⟩

set_option maxRecDepth 100000 in
set_option maxHeartbeats 400000 in
theorem rpad_own (v : Value) (l : List UInt8) (hl : l.length ≤ 140737488351232) (w : World) (hv : Bs w w.heap.size v l) :
    Calls Tryd.prog 78 #[v] w fun e w' => ∃ v', e = .returned v' ∧ OwnB w' w.heap.size v' (padL l) ∧ Below w.heap.size w w' := by
  obtain ⟨A, n, c, rfl⟩ := hv.form
  obtain ⟨rfl, hsrc⟩ := hv.src
  have Hsrc := Lib.hid hsrc; have Hl := Lib.hid hl; clear hsrc hl hv
  have h0 : w.ownsRow w.heap.size 5 1 (.slice none 0 0) 0 [] := World.ownsRow_nil _ _ _ _
  go_enter Tryd.func78, Tryd.ntmps78
  go_wp2_with (first
    | (at_builtin
       (with_reducible refine wpList_append1 _ rfl (.const (.slice none 0 0)) (.tmp 4) 22 rfl w.heap.size 5 (.int .u8 0) 1 Tryd.underlying22 infoU8 rfl (by omega) (.slice none 0 0) 0 [] rfl h0 A l.length c (l.map U8) rfl Hsrc.out (by have := Hl.out; omega) (Nat.le_refl _) ?_)
       intro v1 w1 hown1 hg1 _ _
       have hb1 := below_append h0 hg1 (Nat.le_refl _) (Nat.le_refl _)
       have hown1 : w1.ownsRow w.heap.size 5 1 v1 l.length (l.map U8) := by simpa using hown1
       have Hown1 := Lib.hid (hown1.alloc (.cells #[.int .u8 128] 5)); have Hb1 := Lib.hid hb1
       have Hsrc1 := Lib.hid (show SrcAt (w1.alloc (.cells #[.int .u8 128] 5)) (some ⟨w1.heap.size, 0, none⟩) 1 [.int .u8 128] from SrcAt.one _ _ rfl)
       have Hbase1 := Lib.hid (show w.heap.size ≤ (w1.alloc (.cells #[.int .u8 128] 5)).heap.size by have := hb1.size; simp; omega)
       clear hown1 hg1 hb1)
    | (at_builtin
       (with_reducible refine wpList_append1 _ rfl (.tmp 5) (.tmp 6) 22 rfl w.heap.size 5 (.int .u8 0) 1 Tryd.underlying22 infoU8 rfl (by omega) v1 l.length (l.map U8) rfl Hown1.out (some ⟨w1.heap.size, 0, none⟩) 1 1 [.int .u8 128] rfl Hsrc1.out (by have := Hl.out; omega) Hbase1.out ?_)
       intro v2 w2 hown2 hg2 _ _
       have hb2 := (Hb1.out.alloc Hb1.out.size _).trans (below_append Hown1.out hg2 (Nat.le_refl _) Hbase1.out)
       have Hown2 := Lib.hid hown2; have Hb2 := Lib.hid hb2
       clear hown2 hg2 hb2))
  go_loopw [3] (fun o wr => ∃ j : Nat, j ≤ padN l.length ∧ wr.ownsRow w.heap.size 5 1 o (l.length + 1 + j) (l.map U8 ++ [.int .u8 128] ++ List.replicate j (.int .u8 0)) ∧ Below w.heap.size w wr) (fun o _ => l.length + 1 + padN l.length - lenV o)
  case atStart => exact ⟨0, by omega, by simpa using Hown2.out, Hb2.out⟩
  case round =>
    obtain ⟨j, hj, hown, hb⟩ := hrel
    obtain ⟨g, cap, rfl, _, _, _⟩ := own_form16 hown (by omega)
    have hl2 : l.length ≤ 140737488351232 := Hl.out
    have hp := padN_le l.length
    by_cases hlt : j < padN l.length
    · have t1 : (((l.length : Int) + 1 + j) % 16 != 0) = true := by
        have : padN l.length = (16 - (l.length + 1) % 16) % 16 := rfl
        simp; omega
      have Hown := Lib.hid (hown.alloc (.cells #[.int .u8 0] 5)); have Hb := Lib.hid hb
      have Hsrc := Lib.hid (show SrcAt (wr.alloc (.cells #[.int .u8 0] 5)) (some ⟨wr.heap.size, 0, none⟩) 1 [.int .u8 0] from SrcAt.one _ _ rfl)
      have Hbase := Lib.hid (show w.heap.size ≤ (wr.alloc (.cells #[.int .u8 0] 5)).heap.size by have := hb.size; simp; omega)
      clear hown hb
      go_wp2_with (at_builtin; (with_reducible refine wpList_append1 _ rfl (.tmp 12) (.tmp 13) 22 rfl w.heap.size 5 (.int .u8 0) 1 Tryd.underlying22 infoU8 rfl (by omega) (.slice (some ⟨g, 0, none⟩) (l.length + 1 + j) cap) (l.length + 1 + j) (l.map U8 ++ [.int .u8 128] ++ List.replicate j (.int .u8 0)) rfl Hown.out (some ⟨wr.heap.size, 0, none⟩) 1 1 [.int .u8 0] rfl Hsrc.out (by omega) Hbase.out ?_); intro v4 w4 hown4 hg4 _ _
                   obtain ⟨g4, cap4, rfl, _, _, _⟩ := own_form16 hown4 (by omega))
      go_roundw
      case rel =>
        refine ⟨j + 1, by omega, ?_, (Hb.out.alloc Hb.out.size _).trans (below_append Hown.out hg4 (Nat.le_refl _) Hbase.out)⟩
        rw [← Nat.add_assoc, List.replicate_succ', ← List.append_assoc]
        exact hown4
      case measure => simp only [lenV]; omega
    · have hjp : j = padN l.length := by omega
      have t1 : (((l.length : Int) + 1 + j) % 16 != 0) = false := by
        have : padN l.length = (16 - (l.length + 1) % 16) % 16 := rfl
        simp; omega
      rw [hjp, ← padL_map, ← padL_len] at hown
      have e : l.length + 1 + j = (padL l).length := by rw [padL_len, hjp]
      have Hown := Lib.hid hown; have Hb := Lib.hid hb; have E := Lib.hid e
      clear hown hb hjp e
      go_wp2
      go_ret
      refine ⟨_, rfl, ?_, Hb.out⟩
      rw [E.out]
      exact Hown.out
theorem rpad_any (v : Value) (l : List UInt8) (hl : l.length ≤ 140737488351232) (w : World) (hv : Bs w w.heap.size v l) :
    Calls Tryd.prog 78 #[v] w fun e w' => ∃ v', e = .returned v' ∧ BsS w' (New w w') v' (padL l) ∧ Below w.heap.size w w' :=
  (rpad_own v l hl w hv).mono fun _ _ ⟨v', h1, h2, h3⟩ => ⟨v', h1, (BsS.of_own h2 (by rw [padL_len]; have := padN_le l.length; omega)).keep fun _ hg _ => ⟨rfl, hg.1, hg.2⟩, h3⟩

/-- Where the padding of bytes begins: from place n - 1 down, k places more. -/
def unpS (l : List UInt8) : Nat → Nat → Option Nat
  | _, 0 => none
  | 0, _ + 1 => none
  | n + 1, k + 1 => if gb l n = 0 then unpS l n k else if gb l n = 128 then some n else none
def unpO (l : List UInt8) : List UInt8 := if l.length = 0 ∨ ¬ l.length % 16 = 0 then [] else match unpS l l.length 16 with | some n => l.take n | none => []
def unpE (l : List UInt8) : Int := if l.length = 0 ∨ ¬ l.length % 16 = 0 then 2 else match unpS l l.length 16 with | some _ => 0 | none => 9
theorem unpS_zero (l : List UInt8) (n k : Nat) (h : gb l n = 0) : unpS l (n + 1) (k + 1) = unpS l n k := by rw [unpS, if_pos h]
theorem unpS_hit (l : List UInt8) (n k : Nat) (h : gb l n = 128) : unpS l (n + 1) (k + 1) = some n := by rw [unpS, if_neg (by rw [h]; decide), if_pos h]
theorem unpS_miss (l : List UInt8) (n k : Nat) (h0 : ¬ gb l n = 0) (h : ¬ gb l n = 128) : unpS l (n + 1) (k + 1) = none := by rw [unpS, if_neg h0, if_neg h]
/-- A cut at the end. -/
theorem Bs.cutTo {w : World} {S : Nat → Prop} {A : Option Addr} {n c : Nat} {l : List UInt8} (h : BsS w S (.slice A n c) l) (k : Nat) (hk : k ≤ l.length) : BsS w S (.slice A k c) (l.take k) := by
  obtain ⟨a, c', hv, h1, h2, h3, h4⟩ := h
  injection hv with ha hn hc
  subst ha hc
  have hl : (l.take k).length = k := by simp; omega
  refine ⟨A, c, by rw [hl], by omega, h2, by omega, fun hp => ?_⟩
  rw [hl] at hp
  obtain ⟨b, off, rfl, hb, hcell⟩ := h4 (by omega)
  refine ⟨b, off, rfl, hb, fun j hj => ?_⟩
  rw [hl] at hj
  rw [hcell j (by omega)]
  congr 2
  unfold gb
  rw [List.getD_eq_getElem?_getD, List.getD_eq_getElem?_getD, List.getElem?_take, if_pos hj]
end Go.Proofs.YtnogcnmoeekcpaaDoor
