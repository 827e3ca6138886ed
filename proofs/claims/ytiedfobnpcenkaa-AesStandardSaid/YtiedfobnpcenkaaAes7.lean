/- The walk of Expand. -/
import Derived.Test.YtiedfobnpcenkaaAes6
import Derived.Test.YtiedfobnpcenkaaLists
namespace Go.Proofs.Ytiedfobnpcenkaa
open Go.RowKit

/-- The first n keys of the rounds. -/
def keyL (key : Nat → UInt8) (n : Nat) : List (List UInt8) := (List.range n).map fun i => bList 16 (keyF fwd key i)
theorem keyL_succ (key : Nat → UInt8) (n : Nat) : keyL key (n + 1) = keyL key n ++ [bList 16 (keyF fwd key n)] := by
  unfold keyL; rw [List.range_succ, List.map_append]; rfl
theorem keyL_len (key : Nat → UInt8) (n : Nat) : (keyL key n).length = n := by simp [keyL]

set_option maxHeartbeats 400000 in
theorem expand_bad (v : Value) (l : List UInt8) (h : ¬ l.length = 16) (w : World) (hv : Bs w w.heap.size v l) :
    Calls Try.prog 20 #[v] w fun e w' => e = .returned (.tuple #[.slice none 0 0, .int .i64 2]) ∧ w' = w := by
  obtain ⟨a, c, rfl, hlc, hc, h3, hcell⟩ := hv
  clear hcell
  have e1 : ((l.length : Int) != 16) = true := by simp; omega
  clear h
  go_enter Try.func20, Try.ntmps20
  go_wp2
  go_ret2
  exact ⟨rfl, rfl⟩

theorem index_keys (K : Nat → UInt8) (n : Nat) (hn : n < 11) (w : World) :
    (Instr.index 54 (.agg (bArr 176 K)) (.int .i64 n)).run Try.prog w = .ok (.agg (bArr 16 fun j => K (n * 16 + j))) w := by
  iterate 11 (rcases n with _ | n; · kernel_rfl)
  omega
theorem clone_lit (A : Option Addr) (n c : Nat) (l : List UInt8) (w : World) (hv : Bs w w.heap.size (.slice A n c) l) :
    Calls Try.prog 34 #[.slice A n c] w fun e w' => ∃ v', e = .returned v' ∧ OwnB w' w.heap.size v' l ∧ Below w.heap.size w w' := clone_any _ l w hv
set_option maxRecDepth 100000 in
set_option maxHeartbeats 1000000 in
theorem expand_good (v : Value) (l : List UInt8) (hl : l.length = 16) (w : World) (hv : Bs w w.heap.size v l) :
    Calls Try.prog 20 #[v] w fun e w' => ∃ v', e = .returned (.tuple #[v', .int .i64 0]) ∧ LBsS w' (New w w') v' (keyL (gb l) 11) ∧ Below w.heap.size w w' := by
  have hv0 := hv
  have Hl := Lib.hid hl
  obtain ⟨a, c, hve, hlc, hc, _, hcell⟩ := hv
  rw [hl] at hve
  subst hve
  have Hv0 := Lib.hid hv0; clear hv0 hl hcell
  go_enter Try.func20, Try.ntmps20
  go_wp2_with fail
  refine (newTables_any _).mono ?_
  rintro e w1 ⟨rfl, hr1, hb1⟩
  go_wp2_with fail
  refine (expand_any w.heap.size 0 fwd (.slice a 16 c) l Hl.out w1 (tabs_fwd hr1) hr1.lt ((Hv0.out.below hb1).mono hb1.size)).mono ?_
  rintro e w2 ⟨rfl, hb2⟩
  have hb12 := hb1.trans (hb2.mono hb1.size)
  clear hr1 hb1 hb2
  go_wp2_with fail
  go_loopw [4, 13] (fun o i wr => ∃ (n : Nat) (xs : List Value), n ≤ 11 ∧ i = .int .i64 n ∧ wr.ownsRow w.heap.size 22 1 o n xs ∧ Each wr (Off w.heap.size wr o) xs (keyL (gb l) n) ∧ Below w.heap.size w wr) (fun _ i _ => 11 - (intOf i).toNat)
  case atStart => exact ⟨0, [], by omega, rfl, World.ownsRow_nil _ _ _ _, Each.nil _ _, hb12⟩
  case round =>
    clear hb12
    obtain ⟨n, xs, hn, rfl, hown, hE, hb⟩ := hrel
    by_cases hlt : n < 11
    · have j0 : (n : Int) < 11 := by omega
      have hix := index_keys (keysF fwd (gb l)) n hlt wr
      have hk : bArr 16 (fun j => keysF fwd (gb l) (n * 16 + j)) = bArr 16 (keyF fwd (gb l) n) := bArr_congr fun j hj => by
        unfold keysF
        rw [show (n * 16 + j) / 16 = n by omega, show (n * 16 + j) % 16 = j by omega]
      rw [hk] at hix
      clear hk
      have hst := store_new (P := Try.prog) (T := 53) (n := 16) rfl (keyF fwd (gb l) n)
      have hrow : (wr.alloc (.cells (bArr 16 (keyF fwd (gb l) n)) 53)).rowIs wr.heap.size 53 16 (fun j => U8 (keyF fwd (gb l) n j)) := rowIs_bArr _ _ _ _
      have Hrow := Lib.hid (Bs.of_row hrow (by omega)); clear hrow
      have Hown := Lib.hid (hown.alloc (.cells (bArr 16 (keyF fwd (gb l) n)) 53))
      have HE := Lib.hid hE
      have Hb := Lib.hid (hb.alloc hb.size (.cells (bArr 16 (keyF fwd (gb l) n)) 53))
      clear hown hE hb
      go_wp2_with fail
      refine (clone_any _ (bList 16 (keyF fwd (gb l) n)) _ Hrow.out).mono ?_
      rintro e w3 ⟨v3, rfl, hv3, hb3⟩
      have hown3 := own_below Hown.out hb3
      have hb30 := ((Below.refl wr.heap.size wr).alloc (Nat.le_refl _) (.cells (bArr 16 (keyF fwd (gb l) n)) 53)).trans (hb3.mono (by simp))
      have hE3 : Each w3 (Off w.heap.size w3 u4) xs (keyL (gb l) n) := HE.out.keep fun b hs hlt => ⟨hb30.block b hlt, by have := hb30.size; omega, hs.2⟩
      have hbb3 := Hb.out.trans (hb3.mono Hb.out.size)
      have hv3' : BsS w3 (Off w.heap.size w3 u4) v3 (bList 16 (keyF fwd (gb l) n)) := (BsS.of_own hv3 (by rw [bList_len]; omega)).keep fun b hs _ => ⟨rfl, hs.2, fun e => by
        have := Hown.out.lt b e
        have := hs.1
        omega, by have := hs.1; have := Hb.out.size; simp at *; omega⟩
      have Hown3 := Lib.hid (hown3.alloc (.cells #[v3] 22)); have HE3 := Lib.hid hE3; have Hbb3 := Lib.hid hbb3; have Hv3' := Lib.hid hv3'
      obtain ⟨a3, n3, c3, rfl⟩ := hv3'.form
      have Hsrc := Lib.hid (SrcAt.one (w := w3) (.slice a3 n3 c3) 22 rfl)
      clear hown3 hE3 hbb3 hv3 Hown HE Hb Hrow hv3' hix hst
      go_wp2_with (at_builtin; (with_reducible refine wpList_append1 _ rfl (.tmp 16) (.tmp 19) 34 rfl w.heap.size 22 (.slice none 0 0) 24 Try.underlying34 infoBytes rfl (by omega) u4 n xs rfl Hown3.out (some ⟨w3.heap.size, 0, none⟩) 1 1 [.slice a3 n3 c3] rfl Hsrc.out (by omega) (by have := Hbb3.out.size; simp; omega) ?_); intro v5 w5 hown5 hg5 hat5 _)
      have hb5 := below_append Hown3.out hg5 (Nat.le_refl _) (by have := Hbb3.out.size; simp; omega)
      have hE5 := ((HE3.out.snoc Hv3'.out).keep (w' := w3.alloc (.cells #[.slice a3 n3 c3] 22)) (S' := Off w.heap.size (w3.alloc (.cells #[.slice a3 n3 c3] 22)) u4) fun b hs hlt => ⟨Below.heap_alloc _ _ _ hlt, by simp; omega, hs.2⟩).grown hg5 hat5
      go_wp2
      go_roundw
      case rel =>
        refine ⟨n + 1, xs ++ [.slice a3 n3 c3], by omega, by go_num, hown5, by rw [keyL_succ]; exact hE5, (Hbb3.out.alloc Hbb3.out.size _).trans hb5⟩
      case measure => simp [intOf] <;> omega
    · have hn11 : n = 11 := by omega
      subst hn11
      go_wp2
      go_ret2
      exact ⟨_, rfl, LBsS.of_own hown hE (fun b hs => ⟨hs.2.2, hs.1⟩) (Nat.le_refl _), hb⟩
end Go.Proofs.Ytiedfobnpcenkaa
