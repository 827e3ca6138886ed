/- Digest: words, their bytes, turned words. -/
import Derived.Test.YtnogcnmoeekcpaaDoorQSha
import Derived.Test.YtnogcnmoeekcpaaDoorAppB
import Derived.BigQuiet
import Derived.Deep.Cut
import Derived.Deep.CutRange
import Derived.Deep.DeepCutAuto
import Derived.Deep.QuietTactic
import Derived.Deep.LoopGhost
namespace Go.Proofs.YtnogcnmoeekcpaaDoor
open Go.RowKit Go.Deep

set_option maxRecDepth 100000 in
theorem word_any (b off n c : Nat) (b0 b1 b2 b3 : UInt8) (w : World) (hn : 4 ≤ n) (h0 : w.cell? ⟨b, off, none⟩ = some (U8 b0)) (h1 : w.cell? ⟨b, off + 1, none⟩ = some (U8 b1)) (h2 : w.cell? ⟨b, off + 2, none⟩ = some (U8 b2)) (h3 : w.cell? ⟨b, off + 3, none⟩ = some (U8 b3)) :
    Calls Tryd.prog 65 #[.slice (some ⟨b, off, none⟩) n c] w fun e w' => e = .returned (W32 (wordB b0 b1 b2 b3)) ∧ ∃ k, w' = w.drewN k := by
  have hn1 : (1 : Int) < n := by omega
  have hn2 : (2 : Int) < n := by omega
  have hn3 : (3 : Int) < n := by omega
  have hn0 : (0 : Int) < n := by omega
  go_enter Tryd.func65, Tryd.ntmps65
  go_upto_region 1 with fail
  go_quiet (fail)
  go_wp2_with fail
  go_ret
  exact ⟨rfl, _, rfl⟩
theorem turn_and : ∀ n : Nat, n < 32 → 0 < n → bits .and .u64 (IntKind.u64.wrap (-(n : Int))) 31 = 32 - (n : Int) := by decide +kernel
theorem rotl_any (x : UInt32) (n : Nat) (w : World) (h0 : 0 < n) (h1 : n < 32) : Calls Tryd.prog 64 #[W32 x, .int .i64 (-(n : Int))] w fun e w' => e = .returned (W32 (rotW x n)) ∧ w' = w := by
  have hs := turn_and n h1 h0
  obtain ⟨m, hm⟩ : ∃ m : Nat, (32 : Int) - n = m ∧ m = 32 - n := ⟨32 - n, by omega, rfl⟩
  rw [hm.1] at hs
  have hm2 : (m : Int) ≤ 32 := by omega
  have hm3 : (32 : Int) - m = n := by omega
  have E : Hid (rotW x n = (ofW (wv x * 2 ^ m) ||| ofW (wv x / 2 ^ n))) := Lib.hid (by unfold rotW; rw [hm.2, UInt32.or_comm])
  clear hm
  go_enter Tryd.func64, Tryd.ntmps64
  go_wp2_with fail
  go_ret
  exact ⟨by rw [E.out]; rfl, rfl⟩
theorem rotr_any (x : UInt32) (n : Nat) (w : World) (h0 : 0 < n) (h1 : n < 32) : Calls Tryd.prog 66 #[W32 x, .int .u64 (n : Int)] w fun e w' => e = .returned (W32 (rotW x n)) ∧ w' = w := by
  go_enter Tryd.func66, Tryd.ntmps66
  go_wp2_with fail
  go_ret
  exact ⟨rfl, rfl⟩
theorem lit_row (w : World) (l : List UInt8) (t : TypeId) (hl : l.length ≤ 140737488355328) (c : Array Value) (hc : c = (l.map U8).toArray) :
    BsS (w.alloc (.cells c t)) (New w (w.alloc (.cells c t))) (.slice (some ⟨w.heap.size, 0, none⟩) l.length l.length) l := by
  subst hc
  refine ⟨_, _, rfl, Nat.le_refl _, by omega, hl, fun _ => ⟨_, _, rfl, ⟨Nat.le_refl _, by simp⟩, fun j hj => ?_⟩⟩
  rw [Nat.zero_add, cell_of_row _ _ _ _ _ _ (heap_alloc_new _ _)]
  exact (List.getElem?_toArray ..).trans (mapU8_get l j hj)
theorem bytesOf_any (x : UInt32) (w : World) : Calls Tryd.prog 51 #[W32 x] w fun e w' => ∃ v', e = .returned v' ∧ BsS w' (New w w') v' (bytesW x) ∧ Below w.heap.size w w' := by
  go_enter Tryd.func51, Tryd.ntmps51
  go_wp2_with fail
  go_ret
  exact ⟨_, rfl, lit_row w (bytesW x) _ (by rw [bytesW_len]; omega) _ rfl, (Below.refl _ _).alloc (Nat.le_refl _) _⟩
/-- A state: eight words in a block of their own. -/
def StS (w : World) (S : Nat → Prop) (v : Value) (s : St8) : Prop := ∃ g, v = .slice (some ⟨g, 0, none⟩) 8 8 ∧ S g ∧ w.heap[g]? = some (.cells s.cells 62 (0, 0))
theorem StS.keep {w w' : World} {S S' : Nat → Prop} {v : Value} {s : St8} (h : StS w S v s) (hk : ∀ b, S b → b < w.heap.size → w'.heap[b]? = w.heap[b]? ∧ S' b) : StS w' S' v s := by
  obtain ⟨g, e, hs, hg⟩ := h
  have hl := (Array.getElem?_eq_some_iff.1 hg).1
  exact ⟨g, e, (hk g hs hl).2, (hk g hs hl).1.trans hg⟩
theorem start_any (w : World) : Calls Tryd.prog 47 #[] w fun e w' => ∃ v', e = .returned v' ∧ StS w' (New w w') v' startW ∧ Below w.heap.size w w' := by
  go_enter Tryd.func47, Tryd.ntmps47
  go_wp2_with fail
  go_ret
  exact ⟨_, rfl, ⟨_, rfl, ⟨Nat.le_refl _, by simp⟩, heap_alloc_new _ _⟩, (Below.refl _ _).alloc (Nat.le_refl _) _⟩
/-- The turned words of a word, combined. -/
def rotsW (x : UInt32) (ns : List Nat) : UInt32 := ns.foldl (fun o n => o ^^^ rotW x n) 0
theorem rotsW_snoc (x : UInt32) (ns : List Nat) (n : Nat) : rotsW x (ns ++ [n]) = rotsW x ns ^^^ rotW x n := by simp [rotsW]
theorem rots2 (x : UInt32) (i j : Nat) : rotsW x [i, j] = rotW x i ^^^ rotW x j := by simp [rotsW]
theorem rots3 (x : UInt32) (i j k : Nat) : rotsW x [i, j, k] = rot3 x i j k := by simp [rotsW, rot3]
set_option maxRecDepth 100000 in
set_option maxHeartbeats 1000000 in
theorem rot_any (x : UInt32) (ns : List Nat) (g : Nat) (w : World) (hn : ∀ n ∈ ns, 0 < n ∧ n < 32) (hl : ns.length ≤ 1000) (hg : w.heap[g]? = some (.cells (ns.map fun n : Nat => Value.int .i64 (n : Int)).toArray 3 (0, 0))) :
    Calls Tryd.prog 63 #[W32 x, .slice (some ⟨g, 0, none⟩) ns.length ns.length] w fun e w' => e = .returned (W32 (rotsW x ns)) ∧ w' = w := by
  have HC : Hid (∀ j (h : j < ns.length), w.cell? ⟨g, j, none⟩ = some (.int .i64 (ns[j] : Int))) := Lib.hid (fun j h => by
    rw [cell_of_row _ _ _ _ _ _ hg]
    simp [h])
  have HN := Lib.hid hn
  clear hg hn
  go_enter Tryd.func63, Tryd.ntmps63
  go_wp2_with fail
  go_loopg [5, 10] ns.length (fun m ov iv wr => ∃ (D R : List Nat) (o : UInt32), R.length = m ∧ ov = W32 o ∧ iv = .int .i64 D.length ∧ D.length + R.length = ns.length ∧ Hid (D ++ R = ns ∧ o = rotsW x D) ∧ wr = w)
  case atStart => exact ⟨[], ns, 0, rfl, rfl, rfl, by simp, Lib.hid ⟨rfl, rfl⟩, rfl⟩
  case round =>
    obtain ⟨D, R, o, rfl, rfl, rfl, hj, hab, rfl⟩ := hrel
    cases R with
    | nil =>
      have E : Hid (o = rotsW x ns) := Lib.hid (by have := hab.out; rw [List.append_nil] at this; rw [← this.1]; exact this.2)
      simp only [List.length_nil, Nat.add_zero] at hj
      clear hab
      go_wp2_with fail
      go_ret
      exact ⟨by rw [← E.out]; rfl, rfl⟩
    | cons n R =>
      simp only [List.length_cons] at hj
      have hlt : D.length < ns.length := by omega
      have hlt' : (D.length : Int) < ns.length := by omega
      have c0 := HC.out D.length hlt
      have en : ns[D.length] = n := by simp [← hab.out.1]
      rw [en] at c0
      have hnn := HN.out n (by rw [← hab.out.1]; simp)
      have HR := Lib.hid (fun w => rotl_any x n w hnn.1 hnn.2)
      have hn31 : (n : Int) < 32 := by omega
      have E : Hid (D ++ [n] ++ R = ns ∧ o ^^^ rotW x n = rotsW x (D ++ [n])) := Lib.hid ⟨by rw [List.append_assoc]; exact hab.out.1, by rw [rotsW_snoc, ← hab.out.2]⟩
      clear en hab hnn
      go_wp2_with (go_at_call 64; refine (HR.out _).mono ?_; rintro e w2 ⟨rfl, hw2⟩; rw [hw2]; clear hw2 w2)
      go_roundg R.length
      case measure => simp
      case rel => exact ⟨D ++ [n], R, _, rfl, by go_num, by rw [List.length_append, List.length_singleton]; go_num, by rw [List.length_append, List.length_singleton]; omega, E, rfl⟩
end Go.Proofs.YtnogcnmoeekcpaaDoor
