/- slices.Chunk of bytes by 64: what the iterator hands its loop. -/
import Derived.Test.YtnogcnmoeekcpaaDoorChunk
namespace Go.Proofs.YtnogcnmoeekcpaaDoor
open Go.RowKit Go.Shelf
attribute [local go_sem] Oper.semAt_some

set_option maxHeartbeats 1000000 in
theorem chunk64_in (F : Fence) (n : Nat) (hc : F.fn 48) (hro : F.round = none) (a : Option Addr) (len cap : Nat) (w : World) :
    CallsIn F n Tryd.prog 48 #[.slice a len cap, .int .i64 64] w fun e w' => e = .returned (.func (.func 61) #[] #[.pointer (some ⟨w.heap.size, 0, none⟩), .pointer (some ⟨w.heap.size + 1, 0, none⟩)]) ∧
      w' = (w.alloc (.cells #[.slice a len cap] 22)).alloc (.cells #[.int .i64 64] 3) := by
  refine callsIn_of_wp Tryd.func48 rfl hc ?_ hro
  simp only [Tryd.ntmps48, List.size_toArray, List.length_cons, List.length_nil, Nat.reduceAdd, Nat.reduceSub, Array.replicate_succ, Array.replicate_zero, List.push_toArray, List.append_toArray, List.nil_append, List.cons_append]
  gi_wp2
  go_ret
  exact ⟨rfl, rfl⟩

set_option maxRecDepth 100000 in
set_option maxHeartbeats 2000000 in
theorem chunk64b_in (F : Fence) (n : Nat) (hc1 : F.fn 61) (hro : F.round = none) (hn : 1 ≤ n) (l Bs Bn n₀ b off m cap : Nat) (hcap : 64 * m ≤ cap) (hm : 64 * m ≤ 140737488355328) (J Jx : List (Fin m) → World → Prop) (hJ : AbidesFrom n₀ J)
    (hY : ∀ pre (x : Fin m) W, J pre W → pre.length < m → YieldAt F (n - 1) Tryd.prog l #[.slice (some ⟨b, off + 64 * x.1, none⟩) 64 64] W fun e W' =>
      (e = .returned (.bool true) ∧ J (pre ++ [x]) W' ∧ KeepTwo Bs Bn W W') ∨ (e = .returned (.bool false) ∧ Jx (pre ++ [x]) W'))
    (W : World) (hBs : W.cell? ⟨Bs, 0, none⟩ = some (.slice (some ⟨b, off, none⟩) (64 * m) cap)) (hBn : W.cell? ⟨Bn, 0, none⟩ = some (.int .i64 64)) (h0 : J [] W) :
    CallsIn F n Tryd.prog 61 #[.func (.yield l) #[] #[], .pointer (some ⟨Bs, 0, none⟩), .pointer (some ⟨Bn, 0, none⟩)] W fun e W' => (∃ v, e = .returned v) ∧
      ((∃ ys, ys = List.finRange m ∧ J ys W') ∨ (∃ pre, True ∧ Jx pre W')) := by
  refine callsIn_of_wp Tryd.func61 rfl hc1 ?_ hro
  simp only [Tryd.ntmps61, List.size_toArray, List.length_cons, List.length_nil, Nat.reduceAdd, Nat.reduceSub, Array.replicate_succ, Array.replicate_zero, List.push_toArray, List.append_toArray, List.nil_append, List.cons_append]
  gi_wp2
  gi_loopw [4] (fun i wr => ∃ k q : Nat, k ≤ m ∧ Hid (q = 64 * k) ∧ i = .int .i64 q ∧ J ((List.finRange m).take k) wr ∧ KeepTwo Bs Bn W wr)
    (fun i _ => 64 * m - (intOf i).toNat)
  case atStart => exact ⟨0, 0, Nat.zero_le _, rfl, rfl, by simpa using h0, keepTwo_refl _ _ _⟩
  case round =>
    obtain ⟨k, q, hk, hq, rfl, hJs, hnx⟩ := hrel
    have c1 := (World.cell?_of_block (a := ⟨Bs, 0, none⟩) hnx.1).trans hBs
    have c2 := (World.cell?_of_block (a := ⟨Bn, 0, none⟩) hnx.2).trans hBn
    by_cases hlt : k < m
    · have hJd : J ((List.finRange m).take k) wr.drew := hJ _ wr wr.drew none hJs ⟨rfl, rfl, rfl, Nat.le_refl _, fun _ _ _ => rfl⟩ (fun r e => by cases e)
      obtain ⟨fn, tmps, assign, body, hy, hR⟩ := hY _ ⟨k, hlt⟩ wr.drew hJd (by simp; omega)
      have hq1 := hq.out
      have hq2 : (q : Int) + 64 ≤ 64 * m := by omega
      have hq3 : (q : Int) < 64 * m := by omega
      have hq4 : q ≤ cap := by omega
      have hq5 : q ≤ 64 * m := by omega
      have hcq : ¬ cap = q := by omega
      dsimp only at hy
      rw [← hq1] at hy
      clear hq1
      have hd : decide ((q : Int) < 64 * m) = true := by simp; omega
      have hmin : (if (((64 * m - q : Nat) : Int) < 64) then ((64 * m - q : Nat) : Int) else 64) = 64 := by rw [if_neg (by omega)]
      have Hmin := Lib.hid hmin; clear hmin
      gi_wp2
      gi_region
      all_goals rw [Hmin.out]
      all_goals
        gi_wp2
        refine hR.mono ?_
        rintro e W3 (⟨rfl, hJ3, hk3⟩ | ⟨rfl, hJx3⟩)
        · have c3 := (World.cell?_of_block (w := wr.drew) (a := ⟨Bs, 0, none⟩) hk3.1).trans c1
          have c4 := (World.cell?_of_block (w := wr.drew) (a := ⟨Bn, 0, none⟩) hk3.2).trans c2
          gi_wp2
          go_roundw
          case rel =>
            exact ⟨k + 1, q + 64, by omega, by have := hq.out; unfold Hid; omega, by go_num, by rw [take_fin m k hlt]; exact hJ3, keepTwo_t hnx hk3⟩
          case measure => simp [intOf] <;> omega
        · gi_wp2
          refine bodyPost_ret (results_none rfl _ _ _) rfl ?_
          exact ⟨⟨_, rfl⟩, .inr ⟨_, trivial, hJx3⟩⟩
    · have hkm : k = m := by omega
      subst hkm
      have hd : decide ((q : Int) < 64 * k) = false := by have := hq.out; simp; omega
      have hge : ¬ (q : Int) < 64 * k := by have := hq.out; omega
      gi_wp2
      go_end0
      exact ⟨⟨_, rfl⟩, .inl (by rw [List.take_of_length_le (by simp)] at hJs; exact hJs)⟩

/-- slices.Chunk(b, 64) hands back a value that hands on the chunks, in order. -/
theorem chunk64_stops (F : Fence) (n : Nat) (hc1 : F.fn 61) (hro : F.round = none) (hn : 1 ≤ n) (Bs Bn : Nat) (a : Option Addr) (m cap b off : Nat) (hcap : 64 * m ≤ cap) (ha : 0 < m → a = some ⟨b, off, none⟩) (hm : 64 * m ≤ 140737488355328)
    (w : World) (hBs : Bs < w.heap.size) (hBn : Bn < w.heap.size) (hc : w.cell? ⟨Bs, 0, none⟩ = some (.slice a (64 * m) cap)) (hcn : w.cell? ⟨Bn, 0, none⟩ = some (.int .i64 64)) :
    SeqStopsK F n Tryd.prog 61 #[.pointer (some ⟨Bs, 0, none⟩), .pointer (some ⟨Bn, 0, none⟩)] (fun x : Fin m => #[.slice (some ⟨b, off + 64 * x.1, none⟩) 64 64]) (KeepTwo Bs Bn) (fun ys => ys = List.finRange m) (fun _ => True) m w := fun lo J Jx W hW hJ _ hY h0 => by
  have hc' := (hW.cell (p := ⟨Bs, 0, none⟩) hBs).trans hc
  have hcn' := (hW.cell (p := ⟨Bn, 0, none⟩) hBn).trans hcn
  rcases Nat.eq_zero_or_pos m with h | h
  · subst h
    exact (chunk1_nil_in F n hc1 hro lo Bs Bn cap a J W hc' h0).mono fun e W' ⟨he, hj⟩ => ⟨he, .inl ⟨_, rfl, hj⟩⟩
  · obtain rfl := ha h
    exact chunk64b_in F n hc1 hro hn lo Bs Bn _ b off m cap hcap hm J Jx hJ hY W hc' hcn' h0
end Go.Proofs.YtnogcnmoeekcpaaDoor
