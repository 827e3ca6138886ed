/- Layer 2: the reference's list, Parse and Size. -/
import Derived.Test.YtljalnfjneeieaaTlvJ
import Derived.Test.YtljalnfjneeieaaTlvK
namespace Go.Proofs.Ytljalnfjneeieaa
open Go.RowKit Go.Deep

theorem rlists_any (n : Nat) : RListC n true ∧ RListC n false := by
  induction n using Nat.strongRecOn with
  | _ n ih => exact ⟨rlist_open n (fun m hm => (ih m hm).1) (fun m hm => (ih m hm).2), rlist_closed n (fun m hm => (ih m hm).1) (fun m hm => (ih m hm).2)⟩
set_option maxRecDepth 100000 in
set_option maxHeartbeats 1000000 in
theorem rparse_any (B : List UInt8) (v : Value) (st : Bool) (w : World) (hv : Bs w w.heap.size v B) : Calls Try.prog 30 #[v, .bool st] w (NodesOut (parseP B st) w) := by
  have hlen := hv.len
  by_cases h1 : 4096 < B.length
  · obtain ⟨a, c, rfl⟩ := hv.form2
    have E := Lib.hid (parseP_long (st := st) h1)
    clear hv
    go_enter Try.func30, Try.ntmps30
    go_wp2_with fail
    go_ret2
    exact NodesOut.no E.out (Below.refl _ _)
  · have hc := (rlists_any B.length).2 B v 1 0 st w hv (by omega) (Nat.le_refl _) (by omega) (by omega)
    obtain ⟨a, c, rfl⟩ := hv.form2
    have HC := Lib.hid hc
    cases hl : listP st B.length B 1 0 false with
    | error er =>
      have E := Lib.hid (parseP_err h1 hl)
      rw [hl] at HC
      clear hc hl hv
      go_enter Try.func30, Try.ntmps30
      go_wp2_with (go_at_call 46; refine HC.out.mono ?_; intro e w1 h1; obtain ⟨_, rfl, hb⟩ := h1; have Hb := Lib.hid hb; clear hb)
      go_ret2
      exact NodesOut.no E.out Hb.out
    | ok r =>
      have E := Lib.hid (parseP_ok h1 hl)
      rw [hl] at HC
      clear hc hl hv
      go_enter Try.func30, Try.ntmps30
      go_wp2_with (go_at_call 46; refine HC.out.mono ?_; intro e w1 h1; obtain ⟨v1, rfl, hv1, hb⟩ := h1; obtain ⟨va, vc, rfl⟩ := NsS.form2 hv1; have Hv1 := Lib.hid hv1; have Hb := Lib.hid hb; clear hb hv1)
      go_ret2
      exact NodesOut.yes E.out Hv1.out Hb.out
set_option maxRecDepth 100000 in
theorem sizeP_closed (l : List UInt8) (op st : Bool) : (∀ e, sizeP l op st = .error e → sizeP l false st = .error e) ∧ (∀ n j, sizeP l op st = .ok (n, j) → (n < 0 → sizeP l false st = .error 5) ∧ (0 ≤ n → sizeP l false st = .ok (n, j))) := by
  have hb := beV_nn l ((gb l 0).toNat - 128)
  have hg := bv_nn (gb l 0)
  unfold sizeP
  by_cases h1 : l.length = 0
  · simp only [if_pos h1]; exact ⟨fun e h => h, fun n j h => by cases h⟩
  · simp only [if_neg h1]
    by_cases h2 : bv (gb l 0) < 128
    · simp only [if_pos h2]; exact ⟨fun e h => h, fun n j h => ⟨fun hn => by injection h with h; injection h with h _; omega, fun _ => h⟩⟩
    · simp only [if_neg h2]
      by_cases h3 : 132 < bv (gb l 0)
      · simp only [if_pos h3]; exact ⟨fun e h => h, fun n j h => by cases h⟩
      · simp only [if_neg h3]
        by_cases h4 : bv (gb l 0) = 128
        · simp only [if_pos h4]
          cases op with
          | true => exact ⟨fun e h => by simp at h, fun n j h => ⟨fun _ => rfl, fun hn => by simp at h; omega⟩⟩
          | false => exact ⟨fun e h => h, fun n j h => by simp at h⟩
        · simp only [if_neg h4]
          refine ⟨fun e h => h, fun n j h => ⟨fun hn => ?_, fun _ => h⟩⟩
          split at h
          · cases h
          · split at h
            · cases h
            · injection h with h; injection h with h _; omega
end Go.Proofs.Ytljalnfjneeieaa
