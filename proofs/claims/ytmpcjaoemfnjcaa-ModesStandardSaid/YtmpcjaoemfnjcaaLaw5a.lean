/- The walks of the small functions of the statements of layer 5. -/
import Derived.Test.YtmpcjaoemfnjcaaZeros
import Derived.Test.YtmpcjaoemfnjcaaClone
namespace Go.Proofs.Ytmpcjaoemfnjcaa
open Go.RowKit

theorem BsS.lift {w w0 w' : World} {v : Value} {l : List UInt8} (h : BsS w (New w0 w) v l) (hb : Below w.heap.size w w') : Bs w' w'.heap.size v l :=
  h.keep fun b hs _ => ⟨hb.block b hs.2, Nat.lt_of_lt_of_le hs.2 hb.size⟩
theorem Bs.lift {w w' : World} {v : Value} {l : List UInt8} (h : Bs w w.heap.size v l) (hb : Below w.heap.size w w') : Bs w' w'.heap.size v l :=
  BsS.keep h fun b hs _ => ⟨hb.block b hs, Nat.lt_of_lt_of_le hs hb.size⟩
theorem Below.undrew {B : Nat} {w w' : World} (h : Below B w.drew w') : Below B w w' := ⟨h.os, h.tape, h.output, h.size, h.block⟩
/-- 16 bytes that are made of any. -/
def six (l : List UInt8) : List UInt8 := (l ++ List.replicate 16 0).take 16
theorem six_len (l : List UInt8) : (six l).length = 16 := by simp [six]
theorem own_cap {w : World} {base : Nat} {e : TypeId} {g n cap : Nat} {xs : List Value} (h : w.ownsRow base e 1 (.slice (some ⟨g, 0, none⟩) n cap) n xs) : n ≤ cap ∧ cap ≤ 9223372036854775807 := by
  rcases h.2 with ⟨h2, _⟩ | ⟨g', cap', cur, hv, _, _, h1, h2, _⟩
  · cases h2
  · injection hv with _ _ h3
    subst h3
    exact ⟨h1, by unfold maxLen at h2; exact h2⟩
theorem six_get (l : List UInt8) (j : Nat) (hj : j < 16) : (([] ++ l.map U8) ++ List.replicate 16 (.int .u8 0))[j]? = some (U8 (gb (six l) j)) := by
  have e : ([] ++ l.map U8) ++ List.replicate 16 (Value.int .u8 0) = (l ++ List.replicate 16 0).map U8 := by
    rw [List.map_append, List.map_replicate]; rfl
  rw [e, mapU8_get _ _ (by simp; omega)]
  congr 2
  unfold gb six
  rw [List.getD_eq_getElem?_getD, List.getD_eq_getElem?_getD, List.getElem?_take, if_pos hj]
theorem zerosU8 {base : Nat} {v : Value} {n : Nat} {xs : List Value} {w : World} (hown : w.ownsRow base 5 1 v n xs) (hb : n + 16 ≤ 140737488355328) (hbase : base ≤ w.heap.size) (ty : TypeId) :
    ∃ v' w', (Builtin.append_ #[22, 3] ty #[v, .int .i64 16]).run Try.prog w = .ok v' w' ∧ w'.ownsRow base 5 1 v' (n + 16) (xs ++ List.replicate 16 (.int .u8 0)) ∧ w.grownBy w' v.ownBlock :=
  run_append_zeros (P := Try.prog) w base 22 3 ty 5 (.int .u8 0) 1 .i64 .i64 Try.underlying22 Try.underlying3 infoU8 rfl rfl (by omega) v n xs hown 16 (by omega) (by omega) hbase
set_option maxRecDepth 100000 in
set_option maxHeartbeats 400000 in
theorem sixteen_any (v : Value) (l : List UInt8) (hlen : l.length ≤ 140737488351232) (w : World) (hv : Bs w w.heap.size v l) :
    Calls Try.prog 22 #[v] w fun e w' => ∃ v', e = .returned v' ∧ BsS w' (New w w') v' (six l) ∧ Below w.heap.size w w' := by
  obtain ⟨A, n, c, rfl⟩ := hv.form
  obtain ⟨rfl, hsrc⟩ := hv.src
  have Hsrc := Lib.hid hsrc; have Hlen := Lib.hid hlen; clear hsrc hlen hv
  have h0 : w.ownsRow w.heap.size 5 1 (.slice none 0 0) 0 [] := World.ownsRow_nil _ _ _ _
  go_enter Try.func22, Try.ntmps22
  go_wp2_with (first
    | (at_builtin
       (with_reducible refine wpList_append1 _ rfl (.const (.slice none 0 0)) (.tmp 4) 22 rfl w.heap.size 5 (.int .u8 0) 1 Try.underlying22 infoU8 rfl (by omega) (.slice none 0 0) 0 [] rfl h0 A l.length c (l.map U8) rfl Hsrc.out (by have := Hlen.out; omega) (Nat.le_refl _) ?_)
       intro v1 w1 hown1 hg1 _ _
       have hb1 := below_append h0 hg1 (Nat.le_refl _) (Nat.le_refl _)
       obtain ⟨v2, w2, hrun2, hown2, hg2⟩ := zerosU8 hown1 (by have := Hlen.out; omega) hb1.size 22
       have hb2 := hb1.trans (below_append hown1 hg2 (Nat.le_refl _) hb1.size)
       obtain ⟨g2, cap2, rfl, hg2a, hg2b⟩ := hown2.form (by omega)
       have Hown2 := Lib.hid hown2; have Hb2 := Lib.hid hb2; have Hrun2 := Lib.hid hrun2
       have hcap : (16 : Int) ≤ cap2 := by have := (own_cap hown2).1; omega
       clear hown1 hg1 hb1 hrun2 hown2 hg2 hb2)
    | (at_builtin
       (with_reducible refine Lib.wpList_append_run _ rfl (.tmp 5) (.const (.int .i64 16)) 22 3 rfl v1 (.int .i64 16) rfl rfl (.slice (some ⟨g2, 0, none⟩) (0 + l.length + 16) cap2) w2 Hrun2.out ?_)))
  go_ret
  refine ⟨_, rfl, ⟨some ⟨g2, 0, none⟩, cap2, by rw [six_len]; rfl, by rw [six_len]; omega, (own_cap Hown2.out).2, by rw [six_len]; omega, fun _ => ⟨g2, 0, rfl, ⟨hg2a, hg2b⟩, fun j hj => ?_⟩⟩, Hb2.out⟩
  rw [six_len] at hj
  have := Hown2.out.cells (g := g2) rfl j _ (six_get l j hj)
  rwa [addr_add] at this
attribute [irreducible] six
end Go.Proofs.Ytmpcjaoemfnjcaa
