/- The walks of Ready and of the cipher's methods. -/
import Derived.Test.YtmpcjaoemfnjcaaAes3
import Derived.Test.YtmpcjaoemfnjcaaAes4
namespace Go.Proofs.Ytmpcjaoemfnjcaa
open Go.RowKit

def fwd (j : Nat) : UInt8 := tabs j
def bck (j : Nat) : UInt8 := tabs (256 + j)
/-- p points to a cipher that was made ready with a key; it lies below block B. -/
def CipherAt (w : World) (B : Nat) (p : Value) (key : Nat → UInt8) : Prop :=
  ∃ tb cb, p = .pointer (some ⟨cb, 0, none⟩) ∧ tb < B ∧ cb < B ∧ w.cell? ⟨cb, 0, none⟩ = some (.pointer (some ⟨tb, 0, none⟩)) ∧ ArrB w tb 0 512 tabs ∧ ArrB w cb 1 176 (keysF fwd key)
theorem CipherAt.below {w w' : World} {B : Nat} {p : Value} {key : Nat → UInt8} (h : CipherAt w B p key) (hb : Below B w w') : CipherAt w' B p key := by
  obtain ⟨tb, cb, hp, h1, h2, h3, h4, h5⟩ := h
  exact ⟨tb, cb, hp, h1, h2, (hb.cell (p := ⟨cb, 0, none⟩) h2).trans h3, h4.of_block (hb.block tb h1), h5.of_block (hb.block cb h2)⟩

/-- A cipher's cells. -/
def cipArr (p : Option Addr) (K : Nat → UInt8) : Array Value := #[.pointer p] ++ bArr 176 K
theorem built_cipher (p : Option Addr) (K : Nat → UInt8) : Try.prog.built 55 [(0, .pointer p), (1, .agg (bArr 176 K))] = some (cipArr p K) := by kernel_rfl
theorem cipArr_zero (p : Option Addr) (K : Nat → UInt8) : (cipArr p K)[0]? = some (.pointer p) := by
  unfold cipArr; rw [Array.getElem?_append_left (by simp)]; rfl
theorem cipArr_succ (p : Option Addr) (K : Nat → UInt8) (j : Nat) (hj : j < 176) : (cipArr p K)[1 + j]? = some (U8 (K j)) := by
  unfold cipArr; rw [Array.getElem?_append_right (by simp)]
  simp only [List.size_toArray, List.length_cons, List.length_nil]
  rw [show 1 + j - (0 + 1) = j by omega]
  exact bArr_at _ _ _ hj
set_option maxRecDepth 100000 in
set_option maxHeartbeats 400000 in
theorem ready_any (v : Value) (l : List UInt8) (hl : l.length = 16) (w : World) (hv : Bs w w.heap.size v l) :
    Calls Try.prog 32 #[v] w fun e w' => ∃ p, e = .returned p ∧ CipherAt w' w'.heap.size p (gb l) ∧ Below w.heap.size w w' := by
  have hv0 := hv
  have Hl := Lib.hid hl
  obtain ⟨a, c, hve, hlc, hc, _, hcell⟩ := hv
  rw [hl] at hve
  subst hve
  have Hv0 := Lib.hid hv0; clear hv0 hl hcell
  go_enter Try.func32, Try.ntmps32
  go_wp2_with fail
  refine (newTables_any _).mono ?_
  rintro e w1 ⟨rfl, hr1, hb1⟩
  go_wp2_with fail
  have hT1 : ArrB w1 w.heap.size 0 256 fwd := (ArrB.of_row (off := 0) hr1 (m := 256) (by omega)).congr fun j _ => by rw [Nat.zero_add]; rfl
  refine (expand_any w.heap.size 0 fwd (.slice a 16 c) l Hl.out w1 hT1 hr1.lt ((Hv0.out.below hb1).mono hb1.size)).mono ?_
  rintro e w2 ⟨rfl, hb2⟩
  have hr2 := rowIs_below hr1 hb2 hr1.lt
  have hb12 := hb1.trans (hb2.mono hb1.size)
  clear hr1 hT1
  go_wp2_with (with_reducible refine wpList_build_eq rfl 55 #[(0, .tmp 8), (1, .tmp 11)] rfl [(0, .pointer (some ⟨w.heap.size, 0, none⟩)), (1, .agg (bArr 176 (keysF fwd (gb l))))] ?hl (cipArr (some ⟨w.heap.size, 0, none⟩) (keysF fwd (gb l))) (built_cipher _ _) ?_)
  go_ret
  refine ⟨_, rfl, ⟨w.heap.size, w2.heap.size, rfl, ?_, ?_, ?_, ?_, ?_⟩, hb12.alloc hb12.size _⟩
  · have := hr2.lt; simp; omega
  · simp
  · rw [cell_of_row _ _ _ _ _ _ (heap_alloc_new _ _)]; exact cipArr_zero _ _
  · exact ((ArrB.of_row (off := 0) hr2 (m := 512) (by omega)).congr fun j _ => by rw [Nat.zero_add]).alloc _
  · intro j hj
    rw [cell_of_row _ _ _ _ _ _ (heap_alloc_new _ _)]
    exact cipArr_succ _ _ j hj

def mixE (i : Nat) : UInt8 := if i = 0 then 2 else if i = 1 then 3 else 1
def mixD (i : Nat) : UInt8 := if i = 0 then 14 else if i = 1 then 11 else if i = 2 then 13 else 9
/-- The state of the encryption behind n rounds. -/
def encS (key f : Nat → UInt8) : Nat → Nat → UInt8
  | 0 => fun j => f j ^^^ keyF fwd key 0 j
  | n + 1 => fun j => (if n + 1 < 10 then mixF mixE (rotF 1 fun j => fwd (encS key f n j).toNat) j else rotF 1 (fun j => fwd (encS key f n j).toNat) j) ^^^ keyF fwd key (n + 1) j
def encF (key f : Nat → UInt8) (j : Nat) : UInt8 := encS key f 10 j

theorem key_arr {w : World} {cb : Nat} {key : Nat → UInt8} (h : ArrB w cb 1 176 (keysF fwd key)) (n : Nat) (hn : n < 11) : ArrB w cb (1 + n * 16) 16 (keyF fwd key n) := fun j hj => by
  have := h (n * 16 + j) (by omega)
  rw [← Nat.add_assoc] at this
  rw [this]
  unfold keysF
  rw [show (n * 16 + j) / 16 = n by omega, show (n * 16 + j) % 16 = j by omega]

theorem arrayAt_block (b off c : Nat) (w : World) : (Instr.arrayAt 51 (.slice (some ⟨b, off, none⟩) 16 c)).run Try.prog w = .ok (.pointer (some ⟨b, off, none⟩)) w := by kernel_rfl
set_option maxRecDepth 100000 in
set_option maxHeartbeats 1000000 in
theorem encrypt_any (p v : Value) (key : Nat → UInt8) (l : List UInt8) (hl : l.length = 16) (w : World) (hp : CipherAt w w.heap.size p key) (hv : Bs w w.heap.size v l) :
    Calls Try.prog 34 #[p, v] w fun e w' => ∃ v', e = .returned v' ∧ BsS w' (New w w') v' (bList 16 (encF key (gb l))) ∧ Below w.heap.size w w' := by
  obtain ⟨tb, cb, rfl, htb, hcb, hct, hT, hK⟩ := hp
  obtain ⟨a, c, hve, hlc, hc, _, hcell⟩ := hv
  obtain ⟨b, off, rfl, hb, hx⟩ := hcell (by omega)
  have hX : ArrB w b off 16 (gb l) := by rw [← hl]; exact hx
  rw [hl] at hve hlc
  subst hve
  clear hcell hx hl
  have HX := Lib.hid hX; clear hX
  have hst := store_new (P := Try.prog) (T := 51) (n := 16) rfl (gb l)
  have ha := arrayAt_block b off c
  have hx0 : (w.alloc (.cells (bArr 16 (gb l)) 51)).rowIs w.heap.size 51 16 (fun j => U8 (gb l j)) := rowIs_bArr _ _ _ _
  have hb0 : Below w.heap.size w (w.alloc (.cells (bArr 16 (gb l)) 51)) := (Below.refl _ _).alloc (Nat.le_refl _) _
  have Hx0 := Lib.hid hx0; clear hx0
  have Hb0 := Lib.hid hb0; clear hb0
  have HK := Lib.hid hK; clear hK
  have HT := Lib.hid hT; clear hT
  go_enter Try.func34, Try.ntmps34
  go_wp2_with (first
    | (with_reducible refine wpList_load_arr rfl 51 (.tmp 8) rfl b off 16 (gb l) rfl _ HX.out Try.underlying51 rfl rfl ?_)
    | (with_reducible refine wpList_load_arr rfl 51 (.tmp 13) rfl cb 1 16 (keyF fwd key 0) rfl _ ((key_arr HK.out 0 (by omega)).alloc _) Try.underlying51 rfl rfl ?_))
  refine (combine_any _ _ _ (keyF fwd key 0) _ Hx0.out).mono ?_
  rintro e w0 ⟨rfl, hr0, hg0⟩
  have hb0 := Hb0.out.trans (below_of_only hg0 Hb0.out.size (Nat.le_refl _))
  clear hg0
  go_wp2
  go_loopw [6] (fun i wr => ∃ n : Nat, n ≤ 10 ∧ i = .int .i64 (n + 1 : Nat) ∧ wr.rowIs w.heap.size 51 16 (fun j => U8 (encS key (gb l) n j)) ∧ Below w.heap.size w wr) (fun i _ => 11 - (intOf i).toNat)
  case atStart => exact ⟨0, by omega, rfl, hr0, hb0⟩
  case round =>
    clear hr0 hb0
    obtain ⟨n, hn, rfl, hr, hbb⟩ := hrel
    have hct' := (hbb.cell (p := ⟨cb, 0, none⟩) hcb).trans hct
    have hT' : ArrB wr tb 0 256 fwd := fun j hj => by
      have := (HT.out.of_block (hbb.block tb htb)) j (by omega)
      rw [this, show fwd j = tabs j from rfl]
    have HT' := Lib.hid hT'; clear hT'
    have j0 : 0 ≤ (n : Int) + 1 := by omega
    by_cases h9 : n < 9
    · have hd1 : decide ((n : Int) + 1 ≤ 10) = true := by simp; omega
      have hd2 : decide ((n : Int) + 1 < 10) = true := by simp; omega
      have j1 : (n : Int) + 1 < 11 := by omega
      go_wp2_with fail
      refine (substitute_any _ tb 0 _ _ fwd _ hr (HT'.out.congr fun j _ => rfl) (by omega)).mono ?_
      rintro e w1 ⟨rfl, hr1, hg1⟩
      have hbb1 := hbb.trans (below_of_only hg1 hbb.size (Nat.le_refl _))
      clear hr hg1 hbb
      go_wp2_with fail
      refine (rotate1_any _ _ _ _ hr1).mono ?_
      rintro e w2 ⟨rfl, hr2, hg2⟩
      have hbb2 := hbb1.trans (below_of_only hg2 hbb1.size (Nat.le_refl _))
      clear hr1 hg2 hbb1
      go_wp2_with fail
      refine (mix_any _ _ _ mixE _ (by rfl) _ hr2).mono ?_
      rintro e w3 ⟨rfl, hr3, hg3⟩
      have hbb3 := hbb2.trans (below_of_only hg3 hbb2.size (Nat.le_refl _))
      clear hr2 hg3 hbb2
      have hk3 := HK.out
      have hk4 := key_arr (hk3.of_block (hbb3.block cb hcb)) (n + 1) (by omega)
      have HK4 := Lib.hid hk4; clear hk3 hk4
      go_wp2_with (with_reducible refine wpList_load_arr rfl 51 (.tmp 36) rfl cb (1 + (n + 1) * 16) 16 (keyF fwd key (n + 1)) rfl _ HK4.out Try.underlying51 rfl rfl ?_)
      refine (combine_any _ _ _ (keyF fwd key (n + 1)) _ hr3).mono ?_
      rintro e w4 ⟨rfl, hr4, hg4⟩
      have hbb4 := hbb3.trans (below_of_only hg4 hbb3.size (Nat.le_refl _))
      clear hr3 hg4 hbb3
      go_wp2
      go_roundw
      case rel =>
        refine ⟨n + 1, by omega, by go_num, hr4.congr fun j _ => ?_, hbb4⟩
        show _ = U8 ((if n + 1 < 10 then _ else _) ^^^ _)
        rw [if_pos (by omega)]
      case measure => simp [intOf] <;> omega
    · by_cases h10 : n < 10
      · have hd1 : decide ((n : Int) + 1 ≤ 10) = true := by simp; omega
        have hd2 : decide ((n : Int) + 1 < 10) = false := by simp; omega
        have j1 : (n : Int) + 1 < 11 := by omega
        go_wp2_with fail
        refine (substitute_any _ tb 0 _ _ fwd _ hr (HT'.out.congr fun j _ => rfl) (by omega)).mono ?_
        rintro e w1 ⟨rfl, hr1, hg1⟩
        have hbb1 := hbb.trans (below_of_only hg1 hbb.size (Nat.le_refl _))
        clear hr hg1 hbb
        go_wp2_with fail
        refine (rotate1_any _ _ _ _ hr1).mono ?_
        rintro e w2 ⟨rfl, hr2, hg2⟩
        have hbb2 := hbb1.trans (below_of_only hg2 hbb1.size (Nat.le_refl _))
        clear hr1 hg2 hbb1
        have hbb3 := hbb2
        have hr3 := hr2
        clear hr2 hbb2
        have hk3 := HK.out
        have hk4 := key_arr (hk3.of_block (hbb3.block cb hcb)) (n + 1) (by omega)
        have HK4 := Lib.hid hk4; clear hk3 hk4
        go_wp2_with (with_reducible refine wpList_load_arr rfl 51 (.tmp 36) rfl cb (1 + (n + 1) * 16) 16 (keyF fwd key (n + 1)) rfl _ HK4.out Try.underlying51 rfl rfl ?_)
        refine (combine_any _ _ _ (keyF fwd key (n + 1)) _ hr3).mono ?_
        rintro e w4 ⟨rfl, hr4, hg4⟩
        have hbb4 := hbb3.trans (below_of_only hg4 hbb3.size (Nat.le_refl _))
        clear hr3 hg4 hbb3
        go_wp2
        go_roundw
        case rel =>
          refine ⟨n + 1, by omega, by go_num, hr4.congr fun j _ => ?_, hbb4⟩
          show _ = U8 ((if n + 1 < 10 then _ else _) ^^^ _)
          rw [if_neg (by omega)]
        case measure => simp [intOf] <;> omega
      · have hn10 : n = 10 := by omega
        subst hn10
        go_wp2
        go_ret
        exact ⟨_, rfl, BsS.of_row hr (by omega) ⟨Nat.le_refl _, hr.lt⟩, hbb⟩

end Go.Proofs.Ytmpcjaoemfnjcaa
