/- Dice: Exactly. -/
import Derived.Test.YtjbmmdcnccclaaaDoorQSpoil
namespace Go.Proofs.YtjbmmdcnccclaaaDoor
open Go.RowKit Go.Deep

set_option maxRecDepth 100000 in
set_option maxHeartbeats 1000000 in
theorem exactly_any (B p n m : Nat) (z : Int) (hz : z = m) (w : World) (h : Die B w p n) (hm : m ≤ 100000) :
    Calls Tryd.prog 15 #[.pointer (some ⟨p, 0, none⟩), .int .i64 z] w fun e w' => ∃ v l, e = .returned v ∧ BsS w' (New w w') v l ∧ l.length = m ∧ DiePost B w p n w' := by
  subst hz
  have H0 := Lib.hid (DRow.start h)
  clear h
  go_enter Tryd.func15, Tryd.ntmps15
  go_wp2_with fail
  go_loopg [5, 6] m (fun q o i wr => ∃ l : List UInt8, ∃ j : Nat, j + q = m ∧ l.length = j ∧ i = .int .i64 (j : Int) ∧ DRow B w wr p n o l)
  case atStart => exact ⟨[], 0, by omega, rfl, rfl, H0.out⟩
  case round =>
    obtain ⟨l, j, hl, hlj, rfl, hR⟩ := hrel
    obtain ⟨oa, oc, rfl⟩ := hR.own.form
    subst hlj
    have HR := Lib.hid hR
    clear hR
    by_cases hq : l.length < m
    · go_wp2_with (first
        | (at_builtin; (with_reducible refine wpList_push1s rfl (.tmp 12) (.tmp 16) rfl w.heap.size (.slice oa l.length oc) l rfl HR2.out.own (z : Int) (by omega) (by omega) _ w2.heap.size rfl rfl (by omega) HR2.out.size ?_); intro v3 w3 hgr; have H3 := Lib.hid (HR2.out.grew hgr); clear hgr)
        | (go_at_call 16; refine (next_any B p n _ _ HR.out.die (by decide) (by decide)).mono ?_; rintro e w2 ⟨z, rfl, hz, hd⟩; have HR2 := Lib.hid (HR.out.call hd); clear hd))
      go_roundg (m - (l.length + 1))
      case measure => omega
      case rel => exact ⟨_, l.length + 1, by omega, by simp, by go_num, H3.out⟩
    · have hq1 : l.length = m := by omega
      subst hq1
      clear hl hq
      go_wp2_with fail
      go_ret
      exact ⟨_, l, rfl, HR.out.own.out (by omega) w (Nat.le_refl _), rfl, HR.out.2.1⟩
end Go.Proofs.YtjbmmdcnccclaaaDoor
