/- The walks of the statements AesExpands and AesSubstitutes. Printed by gen/law5d.py. -/
import Derived.Test.YtiedfobnpcenkaaLaw5c
import Derived.Test.YtiedfobnpcenkaaSame2
import Derived.Test.YtiedfobnpcenkaaSubst
namespace Go.Proofs.Ytiedfobnpcenkaa
open Go.RowKit

theorem LBs.lift {w w' : World} {v : Value} {l : List (List UInt8)} (h : LBs w w.heap.size v l) (hb : Below w.heap.size w w') : LBs w' w'.heap.size v l :=
  LBsS.keep h fun b hs _ => ⟨hb.block b hs, Nat.lt_of_lt_of_le hs hb.size⟩
def expO (l : List UInt8) : List (List UInt8) := if l.length = 16 then keyL (gb l) 11 else []
def expE (l : List UInt8) : Int := if l.length = 16 then 0 else 2
def ListsErr (w : World) (l : List (List UInt8)) (n : Int) (e : Ending) (w' : World) : Prop := ∃ v', e = .returned (.tuple #[v', .int .i64 n]) ∧ LBs w' w'.heap.size v' l ∧ Below w.heap.size w w'
theorem expX (v : Value) (l : List UInt8) (w : World) (hv : Bs w w.heap.size v l) : Calls Try.prog 20 #[v] w (ListsErr w (expO l) (expE l)) := by
  unfold expO expE
  by_cases h : l.length = 16
  · rw [if_pos h, if_pos h]; exact (expand_good v l h w hv).mono fun _ _ ⟨v', h1, h2, h3⟩ => ⟨v', h1, h2.lbs, h3⟩
  · rw [if_neg h, if_neg h]
    refine (expand_bad v l h w hv).mono ?_
    rintro e w' ⟨rfl, rfl⟩
    exact ⟨_, rfl, LBs.nil _ _, Below.refl _ _⟩
theorem rexpX (v : Value) (l : List UInt8) (w : World) (hv : Bs w w.heap.size v l) : Calls Try.prog 22 #[v] w (ListsErr w (expO l) (expE l)) := by
  unfold expO expE
  by_cases h : l.length = 16
  · rw [if_pos h, if_pos h, keyL_rKeys]; exact refExpandT_good v l h w hv
  · rw [if_neg h, if_neg h]
    refine (refExpandT_bad v l h w hv).mono ?_
    rintro e w' ⟨rfl, rfl⟩
    exact ⟨_, rfl, LBs.nil _ _, Below.refl _ _⟩
theorem sameL_refl (va vb : Value) (l : List (List UInt8)) (w : World) (ha : LBs w w.heap.size va l) (hb : LBs w w.heap.size vb l) :
    Calls Try.prog 23 #[va, vb] w fun e w' => e = .returned (.bool true) ∧ Below w.heap.size w w' := by
  refine (lists_any va vb l l _ _ w ha hb).mono ?_
  rintro e w' ⟨rfl, n, rfl⟩
  exact ⟨by simp, below_drewN (Below.refl _ _) n⟩
attribute [irreducible] expO expE
set_option maxRecDepth 100000 in
set_option maxHeartbeats 400000 in
theorem aesExpands_law (vb : Value) (b : List UInt8) (nb : b.length ≤ 140737488351232) (w : World) (hb : Bs w w.heap.size vb b) :
    Calls Try.prog 8 #[vb] w fun e w' => e = .returned (.bool true) ∧ Below w.heap.size w w' := by
  have Nb := Lib.hid nb; clear nb
  go_enter Try.func8, Try.ntmps8
  go_wp2_with fail
  refine (expX vb b _ hb).mono ?_
  rintro e w1 ⟨x, rfl, hx, hB⟩
  have hb_1 := hb.lift hB
  clear hb
  have hT_1 := hB; clear hB
  have hx_1 := hx; clear hx
  go_wp2_with fail
  refine (rexpX vb b _ hb_1).mono ?_
  rintro e w2 ⟨y, rfl, hy, hB⟩
  have hb_2 := hb_1.lift hB; have hx_2 := hx_1.lift hB
  clear hb_1 hx_1
  have hT_2 := hT_1.trans (hB.mono hT_1.size); clear hT_1 hB
  have hy_2 := hy; clear hy
  go_wp2_with fail
  refine (sixX vb b Nb.out _ hb_2).mono ?_
  rintro e w3 ⟨p, rfl, hp, hB⟩
  have hb_3 := hb_2.lift hB; have hx_3 := hx_2.lift hB; have hy_3 := hy_2.lift hB
  clear hb_2 hx_2 hy_2
  have hT_3 := hT_2.trans (hB.mono hT_2.size); clear hT_2 hB
  have hp_3 := hp; clear hp
  go_wp2_with fail
  refine (expX p (six b) _ hp_3).mono ?_
  rintro e w4 ⟨z, rfl, hz, hB⟩
  have hb_4 := hb_3.lift hB; have hx_4 := hx_3.lift hB; have hy_4 := hy_3.lift hB
  clear hb_3 hx_3 hy_3 hp_3
  have hT_4 := hT_3.trans (hB.mono hT_3.size); clear hT_3 hB
  have hz_4 := hz; clear hz
  go_wp2_with fail
  refine (sixX vb b Nb.out _ hb_4).mono ?_
  rintro e w5 ⟨p2, rfl, hp, hB⟩
  have hx_5 := hx_4.lift hB; have hy_5 := hy_4.lift hB; have hz_5 := hz_4.lift hB
  clear hb_4 hx_4 hy_4 hz_4
  have hT_5 := hT_4.trans (hB.mono hT_4.size); clear hT_4 hB
  have hp_5 := hp; clear hp
  go_wp2_with fail
  refine (rexpX p2 (six b) _ hp_5).mono ?_
  rintro e w6 ⟨v, rfl, hv, hB⟩
  have hx_6 := hx_5.lift hB; have hy_6 := hy_5.lift hB; have hz_6 := hz_5.lift hB
  clear hx_5 hy_5 hz_5 hp_5
  have hT_6 := hT_5.trans (hB.mono hT_5.size); clear hT_5 hB
  have hv_6 := hv; clear hv
  go_wp2_with fail
  refine (awake_any _).mono ?_
  rintro e w7 ⟨rfl, hB⟩
  have hx_7 := hx_6.lift hB; have hy_7 := hy_6.lift hB; have hz_7 := hz_6.lift hB; have hv_7 := hv_6.lift hB
  clear hx_6 hy_6 hz_6 hv_6
  have hT_7 := hT_6.trans (hB.mono hT_6.size); clear hT_6 hB
  go_wp2_with fail
  refine (sameL_refl x y _ _ hx_7 hy_7).mono ?_
  rintro e w8 ⟨rfl, hB⟩
  have hz_8 := hz_7.lift hB; have hv_8 := hv_7.lift hB
  clear hx_7 hy_7 hz_7 hv_7
  have hT_8 := hT_7.trans (hB.mono hT_7.size); clear hT_7 hB
  go_wp2_with fail
  refine (sameL_refl z v _ _ hz_8 hv_8).mono ?_
  rintro e w9 ⟨rfl, hB⟩
  clear hz_8 hv_8
  have hT_9 := hT_8.trans (hB.mono hT_8.size); clear hT_8 hB
  go_wp2
  go_ret
  exact ⟨rfl, hT_9⟩

/-! AesSubstitutes. -/
/-- The substitute of i, as a number. -/
def sT (i : Nat) : Nat := (SB (UInt8.ofNat i)).toNat
theorem sT_lt (i : Nat) : sT i < 256 := UInt8.toNat_lt _
theorem sT_inj {i j : Nat} (hi : i < 256) (hj : j < 256) (h : sT i = sT j) : i = j := by
  have h1 := SB_inj (UInt8.toNat_inj.1 h)
  have h2 : (UInt8.ofNat i).toNat = (UInt8.ofNat j).toNat := by rw [h1]
  simp at h2
  omega
theorem subF_sT (i : Nat) (hi : i < 256) : subF i = (sT i : Int) := by
  unfold subF
  rw [if_pos (by omega)]
  have e : ((i : Int)).toNat = (UInt8.ofNat i).toNat := by simp; omega
  rw [e, fwd_SB]
  rfl
/-- Which numbers were substitutes of the first i. -/
def seenB (i j : Nat) : Bool := (List.range i).any fun k => sT k == j
theorem seenB_new (i : Nat) (hi : i < 256) : seenB i (sT i) = false := by
  unfold seenB
  rw [List.any_eq_false]
  intro k hk
  have hk := List.mem_range.1 hk
  simp only [beq_iff_eq]
  intro h
  have := sT_inj (by omega) hi h
  omega
theorem seenB_succ (i j : Nat) : seenB (i + 1) j = if j = sT i then true else seenB i j := by
  unfold seenB
  rw [List.range_succ, List.any_append]
  by_cases h : j = sT i
  · rw [if_pos h, h]; simp
  · rw [if_neg h]
    have : (sT i == j) = false := by simp; exact fun e => h e.symm
    simp [this]
def falses : Array Value := ((List.range 256).map fun _ => Value.bool false).toArray
theorem zeroBools (w : World) : (zeroValue 30).run Try.prog w = .ok (.agg falses) w := by kernel_rfl
theorem falses_size : falses.size = 256 := by simp [falses]
theorem falses_at (i : Nat) (h : i < 256) : falses[i]? = some (.bool false) := by simp [falses, h]
attribute [irreducible] falses
attribute [local irreducible] subF
theorem subX (x : Int) (w : World) : Calls Try.prog 16 #[.int .i64 x] w fun e w' => e = .returned (.int .i64 (subF x)) ∧ Below w.heap.size w w' := substituteI_any x w
theorem rsubX (x : Int) (w : World) : Calls Try.prog 17 #[.int .i64 x] w fun e w' => e = .returned (.int .i64 (subF x)) ∧ w' = w := by
  have := refSubst_any x w
  rwa [← subF_ref] at this
set_option maxRecDepth 100000 in
set_option maxHeartbeats 1000000 in
theorem aesSubstitutes_law (x : Int) (_hx : (Lit.int .i64 x).wf = true) (w : World) :
    Calls Try.prog 6 #[.int .i64 x] w fun e w' => e = .returned (.bool true) ∧ Below w.heap.size w w' := by
  have hz := zeroBools
  clear _hx
  go_enter Try.func6, Try.ntmps6
  go_wp2_with fail
  refine (subX x _).mono ?_
  rintro e w1 ⟨rfl, hB1⟩
  go_wp2_with fail
  refine (rsubX x _).mono ?_
  rintro e w2 ⟨rfl, rfl⟩
  go_wp2_with fail
  have hr0 : (w2.alloc (.cells falses 30)).rowIs w2.heap.size 30 256 (fun j => .bool (seenB 0 j)) :=
    ⟨_, heap_alloc_new _ _, falses_size, fun i hi => falses_at i hi⟩
  have hb0 := hB1.alloc hB1.size (.cells falses 30)
  have hsz := hB1.size
  clear hB1
  go_loopw [4] (fun i wr => ∃ n : Nat, n ≤ 256 ∧ i = .int .i64 n ∧ wr.rowIs w2.heap.size 30 256 (fun j => .bool (seenB n j)) ∧ Below w.heap.size w wr) (fun i _ => 256 - (intOf i).toNat)
  case atStart => exact ⟨0, by omega, rfl, hr0, hb0⟩
  case round =>
    clear hr0 hb0
    obtain ⟨n, hn, rfl, hr, hb⟩ := hrel
    by_cases hlt : n < 256
    · have hd : decide ((n : Int) < 256) = true := by simp; omega
      go_wp2_with fail
      refine (subX n _).mono ?_
      rintro e w3 ⟨rfl, hB3⟩
      rw [subF_sT n hlt]
      have hr3 := rowIs_below hr hB3 hr.lt
      have hb3 := hb.trans (hB3.mono hb.size)
      clear hr hb hB3
      have hs := sT_lt n
      have c1 := hr3.cell hs
      have hsn := seenB_new n hlt
      rw [hsn] at c1
      have f1 := hr3.frozen (sT n)
      clear hsn
      obtain ⟨s, hse⟩ : ∃ s, s = sT n := ⟨_, rfl⟩
      rw [← hse] at hs c1 f1 ⊢
      have Hs := Lib.hid hse; clear hse
      have g0 : decide ((s : Int) < 0) = false := by simp
      have g1 : decide (255 < (s : Int)) = false := by simp; omega
      have g2 : (s : Int) < 256 := by omega
      have g3 : (0 : Int) ≤ s := by omega
      go_wp2
      go_roundw
      case rel =>
        refine ⟨n + 1, by omega, by go_num, (hr3.set s _).congr fun j _ => ?_, hb3.setCell (by simpa using hsz) _⟩
        rw [seenB_succ, ← Hs.out]
        by_cases h : j = s
        · rw [if_pos h, if_pos h]
        · rw [if_neg h, if_neg h]
      case measure => simp [intOf] <;> omega
    · have hd : decide ((n : Int) < 256) = false := by simp; omega
      go_wp2_with fail
      refine (awake_any _).mono ?_
      rintro e w3 ⟨rfl, hB3⟩
      go_wp2
      go_ret
      exact ⟨rfl, hb.trans (hB3.mono hb.size)⟩
end Go.Proofs.Ytiedfobnpcenkaa
