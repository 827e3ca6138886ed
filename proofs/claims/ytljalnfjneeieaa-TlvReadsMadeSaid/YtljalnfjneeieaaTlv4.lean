/- Layer 2: the walk of length. -/
import Derived.Test.YtljalnfjneeieaaTlv2
import Derived.Test.YtljalnfjneeieaaRev
import Derived.Test.YtljalnfjneeieaaAppB
import Derived.Deep.LoopGhost
import Derived.Deep.DeepMust
namespace Go.Proofs.Ytljalnfjneeieaa
open Go.RowKit Go.Deep

theorem leN_zero (f : Nat) : leN f 0 = [] := by cases f <;> rfl
theorem leN_pos (f n : Nat) (h : 0 < n) : leN (f + 1) n = ofI n :: leN f (n / 256) := by rw [leN, if_neg (by omega)]
theorem leN_len (f n : Nat) : (leN f n).length ≤ f := by
  induction f generalizing n with
  | zero => simp [leN]
  | succ f ih => rw [leN]; split <;> simp; exact ih _
theorem bList_rev (l : List UInt8) (n : Nat) (h : l.length = n) : bList n (fun j => gb l (n - 1 - j)) = l.reverse := by
  subst h
  apply List.ext_getElem
  · simp [bList]
  · intro i h1 h2
    have h3 : i < l.length := by simpa [bList] using h1
    simp [gb, bList, List.getElem_reverse]
    rw [List.getElem?_eq_getElem (by omega)]; rfl
theorem lenG_big (n : Nat) (h : ¬ n < 128) : lenG n = (leN 8 n ++ [ofI (128 + (leN 8 n).length)]).reverse := by
  unfold lenG; rw [if_neg h]; simp
theorem or128 (n : Nat) (h : n ≤ 8) : (128 : UInt8) ||| ofI (n : Int) = ofI (128 + (n : Int)) := by
  have : (List.range 9).all (fun n => ((128 : UInt8) ||| ofI (n : Int)) == ofI (128 + (n : Int))) = true := by decide +kernel
  exact eq_of_beq (List.all_eq_true.1 this n (List.mem_range.2 (by omega)))
set_option maxHeartbeats 1000000 in
set_option maxRecDepth 100000 in
theorem length_any (n : Nat) (hn : n ≤ 140737488355328) (w : World) : Calls Try.prog 56 #[.int .i64 n] w fun e w' => ∃ v', e = .returned v' ∧ BsS w' (New w w') v' (lenG n) ∧ Below w.heap.size w w' := by
  by_cases h1 : n < 128
  · have d1 : decide ((n : Int) < 128) = true := decide_eq_true (by omega)
    have E : Hid (lenG n = [ofI n]) := if_pos h1
    clear h1 hn
    go_enter Try.func56, Try.ntmps56
    go_wp2_with fail
    go_ret
    rw [E.out]
    exact ⟨_, rfl, lit_new w [ofI n] _ (by simp) _ rfl, (Below.refl _ _).alloc (Nat.le_refl _) _⟩
  · have d1 : decide ((n : Int) < 128) = false := decide_eq_false (by omega)
    have E := Lib.hid (lenG_big n h1)
    go_enter Try.func56, Try.ntmps56
    go_wp2_with fail
    go_loopg [0, 3] 8 (fun f s o wr => ∃ (m : Nat) (l : List UInt8), s = .int .i64 m ∧ m ≤ 140737488355328 ∧ m < 256 ^ f ∧ l.length + f = 8 ∧ Hid (l ++ leN f m = leN 8 n) ∧ OwnB wr w.heap.size o l ∧ Below w.heap.size w wr)
    case atStart => exact ⟨n, [], rfl, hn, by omega, rfl, rfl, OwnB.nil _ _, Below.refl _ _⟩
    case round =>
      obtain ⟨m, l, rfl, hm, hm2, hl, he, hown, hb⟩ := hrel
      obtain ⟨oa, oc, rfl⟩ := hown.form
      by_cases hp : 0 < m
      · obtain ⟨f, rfl⟩ : ∃ f, gk = f + 1 := ⟨gk - 1, by rcases gk with _ | f <;> simp at hm2 ⊢; omega⟩
        have hq : m / 256 < 256 ^ f := by rw [Nat.pow_succ] at hm2; omega
        have Hq := Lib.hid hq; clear hq hm2
        rw [leN_pos _ _ hp] at he
        have Hown := Lib.hid hown; have Hb := Lib.hid hb; clear hown hb
        have hlen : l.length ≤ 8 := by omega
        have Hl := Lib.hid hl; clear hl
        have hz := Hb.out.size
        go_wp2_with (at_builtin; (with_reducible refine wpList_push1 rfl (.tmp 13) (.tmp 16) rfl w.heap.size (.slice oa l.length oc) l rfl Hown.out (ofI m) _ wr.heap.size rfl rfl (by omega) hz ?_); intro v1 w1 hgr; have Hgr := Lib.hid hgr; clear hgr)
        go_roundg f
        case measure => omega
        case rel =>
          obtain ⟨g1, g2, _, _⟩ := Hgr.out
          exact ⟨m / 256, l ++ [ofI m], by go_num, by omega, Hq.out, by have := Hl.out; simp; omega, by rw [List.append_assoc]; exact he, g1, Hb.out.trans g2⟩
      · have hm0 : m = 0 := by omega
        subst hm0
        rw [leN_zero, List.append_nil] at he
        have he := he.out
        obtain rfl : l = leN 8 n := he
        have hlen : (leN 8 n).length ≤ 8 := leN_len 8 n
        have Hor := Lib.hid (or128 (leN 8 n).length hlen)
        have Hb0 := Lib.hid hb
        have Hown := Lib.hid hown; have Hb := Lib.hid hb; clear hown hb hl hm2 Hb0
        have hz := Hb.out.size
        have HN := Lib.hid (show (leN 8 n ++ [ofI (128 + ((leN 8 n).length : Int))]).length = (leN 8 n).length + 1 by simp)
        have hnz : 0 < (leN 8 n ++ [ofI (128 + ((leN 8 n).length : Int))]).length := by simp
        go_wp2_with (first
          | (at_builtin; (with_reducible refine wpList_push1 rfl (.tmp 18) (.tmp 23) rfl w.heap.size (.slice oa (leN 8 n).length oc) (leN 8 n) rfl Hown.out (128 ||| ofI ((leN 8 n).length : Int)) _ wr.heap.size rfl rfl (by omega) hz ?_)
             intro v1 w1 hgr
             rw [Hor.out] at hgr
             obtain ⟨g, cap, rfl, hg1, hg2, hcap⟩ := own_form16 hgr.1 hnz
             have Hgr := Lib.hid hgr; clear hgr)
          | (go_at_call 60
             have R := rev_any g ((leN 8 n).length + 1) cap w.heap.size (gb (leN 8 n ++ [ofI (128 + ((leN 8 n).length : Int))])) w1 (by omega) (by omega) (by rw [← vals_of _ _ HN.out]; have := Hgr.out.1; unfold OwnB at this; rwa [HN.out] at this)
             refine R.mono ?_
             rintro e w2 ⟨rfl, hown2, hgr2⟩
             have Hown2 := Lib.hid hown2; have Hgr2 := Lib.hid hgr2; clear hown2 hgr2))
        go_ret
        refine ⟨_, rfl, ?_, (Hb.out.trans Hgr.out.2.1).trans (below_of_only Hgr2.out (Nat.le_trans hz Hgr.out.2.1.size) hg1)⟩
        rw [E.out, ← bList_rev _ _ HN.out]
        have h := Hown2.out
        rw [vals_bList] at h
        exact (BsS.of_own h (by rw [bList_len]; omega)).keep fun _ hs _ => ⟨rfl, hs⟩
end Go.Proofs.Ytljalnfjneeieaa
