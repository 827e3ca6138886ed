/- Infos: what they are; the check of one. -/
import Derived.Test.YtdpiehhblflacaaDoorGrp
import Derived.Test.YtdpiehhblflacaaDoorQMem
import Derived.BigQuiet
import Derived.Deep.Cut
import Derived.Deep.CutRange
import Derived.Deep.DeepCutAuto
import Derived.Deep.QuietTactic
import Derived.Test.YtdpiehhblflacaaDoorTree
import Derived.Deep.RegionWith
import Derived.Deep.RegionLaw
import Derived.StillTailTactics
namespace Go.Proofs.YtdpiehhblflacaaDoor
open Go.RowKit Go.Deep

/-- An info: protocol, version, parameters, key, number of the key. -/
structure Inf where
  p : Int
  v : Int
  r : Int
  k : Int
  d : Int
  deriving DecidableEq
def Inf.cells (x : Inf) : Array Value := #[.int .i64 x.p, .int .i64 x.v, .int .i64 x.r, .int .i64 x.k, .int .i64 x.d]
/-- The first error of an info. -/
def chkB (p v r k d : Int) (mb cb eb : Bool) : Int :=
  if ¬ (2 ≤ p ∧ p ≤ 6) then 14
  else if v < 1 ∨ 255 < v then 3
  else if r < 0 ∨ (if mb = true then 31 else 0) < r then 3
  else if d < 0 ∨ (if cb = true then 255 else 0) < d then 3
  else if cb = true ∧ eb = false ∨ cb = false ∧ ¬ k = 0 then 10 else 0
def chkI (x : Inf) : Int := chkB x.p x.v x.r x.k x.d (decide (x.p = 2) || decide (x.p = 3)) (x.p == 4) (elemP x.k)
theorem quiet_same_add {P : Program} {f : FuncId} {args : Array Value} {w : World} {a x : Nat} {v : Value} (h : ∀ w, Calls P f args w fun e w' => e = .returned v ∧ w' = w) :
    Calls P f args (w.drewN (a + x)) fun e w'' => e = .returned v ∧ ∃ n, w'' = w.drewN (a + n) := (h _).mono fun _ _ ⟨he, hw⟩ => ⟨he, x, hw⟩
theorem known_any (p : Int) (w : World) : Calls Tryd.prog 62 #[.int .i64 p] w fun e w' => e = .returned (.bool (decide (2 ≤ p) && decide (p ≤ 6))) ∧ w' = w := by
  go_enter Tryd.func62, Tryd.ntmps62
  by_cases h : 2 ≤ p <;> by_cases h2 : p ≤ 6 <;> (go_wp2_with fail; go_ret; exact ⟨by simp [h, h2], rfl⟩)
theorem mapped_any (p : Int) (w : World) : Calls Tryd.prog 43 #[.int .i64 p] w fun e w' => e = .returned (.bool (decide (p = 2) || decide (p = 3))) ∧ w' = w := by
  go_enter Tryd.func43, Tryd.ntmps43
  by_cases h : p = 2
  · subst h; go_wp2_with fail; go_ret; exact ⟨by simp, rfl⟩
  · have h' : (p == 2) = false := by simp [h]
    go_wp2_with fail; go_ret; refine ⟨?_, rfl⟩
    rw [show decide (p = 2) = false from decide_eq_false h, show decide (p = 3) = (p == 3) by rw [Bool.eq_iff_iff]; simp]
    rfl
theorem most_any (b : Bool) (n : Int) (w : World) : Calls Tryd.prog 63 #[.bool b, .int .i64 n] w fun e w' => e = .returned (.int .i64 (if b = true then n else 0)) ∧ w' = w := by
  go_enter Tryd.func63, Tryd.ntmps63
  cases b <;> (go_wp2_with fail; go_ret; exact ⟨by simp, rfl⟩)
set_option maxRecDepth 100000 in
set_option maxHeartbeats 4000000 in
theorem icheck_any (x : Inf) (w : World) : Calls Tryd.prog 37 #[.agg x.cells] w fun e w' => e = .returned (.int .i64 (chkI x)) ∧ Below w.heap.size w w' := by
  obtain ⟨p, v, r, k, d⟩ := x
  show Calls Tryd.prog 37 #[.agg #[.int .i64 p, .int .i64 v, .int .i64 r, .int .i64 k, .int .i64 d]] w _
  have HM := Lib.hid (mapped_any p)
  have HE := Lib.hid (elem_any k)
  have HK := Lib.hid (known_any p)
  show Calls Tryd.prog 37 _ w fun e w' => e = .returned (.int .i64 (chkB p v r k d (decide (p = 2) || decide (p = 3)) (p == 4) (elemP k))) ∧ _
  obtain ⟨mb, hmb⟩ : ∃ b : Bool, (decide (p = 2) || decide (p = 3)) = b := ⟨_, rfl⟩
  obtain ⟨eb, heb⟩ : ∃ b : Bool, elemP k = b := ⟨_, rfl⟩
  obtain ⟨cb, hcb⟩ : ∃ b : Bool, (p == 4) = b := ⟨_, rfl⟩
  rw [hmb] at HM
  rw [heb] at HE
  rw [hmb, heb, hcb]
  clear hmb heb
  have HO := Lib.hid (most_any mb 31)
  have HN := Lib.hid (most_any cb 255)
  obtain ⟨c, hc⟩ : ∃ c, Hid (chkB p v r k d mb cb eb = c) := ⟨_, rfl⟩
  have hc' := hc.out
  rw [hc']
  clear hc
  unfold chkB at hc'
  obtain ⟨m, hm⟩ : ∃ m : Int, (if mb = true then 31 else 0) = m := ⟨_, rfl⟩
  obtain ⟨n, hn⟩ : ∃ n : Int, (if cb = true then 255 else 0) = n := ⟨_, rfl⟩
  rw [hm] at HO hc'
  rw [hn] at HN hc'
  clear hm hn
  have hal : Below w.heap.size w (w.alloc (.cells #[.int .i64 p, .int .i64 v, .int .i64 r, .int .i64 k, .int .i64 d] 45)) := (Below.refl _ _).alloc (Nat.le_refl _) _
  have HAL := Lib.hid hal
  clear hal
  go_enter Tryd.func37, Tryd.ntmps37
  by_cases h1 : 2 ≤ p ∧ p ≤ 6
  · have e1 : (decide (2 ≤ p) && decide (p ≤ 6)) = true := by simp [h1]
    rw [e1] at HK
    rw [if_neg (by omega)] at hc'
    clear e1
    by_cases h2 : v < 1 ∨ 255 < v
    · rw [if_pos h2] at hc'
      have C2 := Lib.hid hc'
      have H2 := Lib.hid h2
      clear h1 h2 hc'
      go_wp2_with (go_at_call 62; refine (HK.out _).mono ?_; rintro e w' ⟨rfl, hw'⟩; rw [hw']; clear hw' w')
      all_goals first
        | (go_ret; exact ⟨by rw [← C2.out]; rfl, by first | exact HAL.out | exact below_drewN HAL.out _ | exact below_drewN (below_drewN HAL.out _) _⟩)
        | (exfalso; have := H2.out; omega)
    · have d2 : decide (v < 1) = false := decide_eq_false (by omega)
      have d3 : decide (255 < v) = false := decide_eq_false (by omega)
      rw [if_neg h2] at hc'
      clear h2
      by_cases h4 : r < 0
      · rw [if_pos (.inl h4)] at hc'
        have d4 : decide (r < 0) = true := decide_eq_true h4
        have C2 := Lib.hid hc'
        clear h4 h1 hc'
        go_wp2_with (first
          | (go_at_call 62; refine (HK.out _).mono ?_; rintro e w' ⟨rfl, hw'⟩; rw [hw']; clear hw' w')
          | (go_quiet (fail)))
        go_ret
        exact ⟨by rw [← C2.out]; rfl, by first | exact HAL.out | exact below_drewN HAL.out _ | exact below_drewN (below_drewN HAL.out _) _⟩
      · have d4 : decide (r < 0) = false := decide_eq_false h4
        by_cases h5 : m < r
        · rw [if_pos (.inr h5)] at hc'
          have d5 : decide (m < r) = true := decide_eq_true h5
          have C2 := Lib.hid hc'
          clear h4 h5 h1 hc'
          go_wp2_with (first
            | (go_at_call 62; refine (HK.out _).mono ?_; rintro e w' ⟨rfl, hw'⟩; rw [hw']; clear hw' w')
            | (go_quiet (first | (go_at_call 43; first | exact Calls.quiet_of_same (HM.out _) | exact quiet_same_add HM.out) | (go_at_call 63; first | exact Calls.quiet_of_same (HO.out _) | exact quiet_same_add HO.out))))
          go_ret
          exact ⟨by rw [← C2.out]; rfl, by first | exact HAL.out | exact below_drewN HAL.out _ | exact below_drewN (below_drewN HAL.out _) _⟩
        · rw [if_neg (by omega)] at hc'
          have d5 : decide (m < r) = false := decide_eq_false h5
          clear h4 h5 h1
          go_upto_region 8 with (first
            | (go_at_call 62; refine (HK.out _).mono ?_; rintro e w' ⟨rfl, hw'⟩; rw [hw']; clear hw' w')
            | (go_quiet (first | (go_at_call 43; first | exact Calls.quiet_of_same (HM.out _) | exact quiet_same_add HM.out) | (go_at_call 63; first | exact Calls.quiet_of_same (HO.out _) | exact quiet_same_add HO.out))))
          clear HK HM HO d2 d3 d4 d5
          by_cases h6 : d < 0
          · rw [if_pos (.inl h6)] at hc'
            have d6 : decide (d < 0) = true := decide_eq_true h6
            have C2 := Lib.hid hc'
            clear h6 hc'
            go_wp2_with (go_quiet (fail))
            go_ret
            exact ⟨by rw [← C2.out]; rfl, by first | exact HAL.out | exact below_drewN HAL.out _ | exact below_drewN (below_drewN HAL.out _) _⟩
          · have d6 : decide (d < 0) = false := decide_eq_false h6
            by_cases h7 : n < d
            · rw [if_pos (.inr h7)] at hc'
              have d7 : decide (n < d) = true := decide_eq_true h7
              have C2 := Lib.hid hc'
              clear h6 h7 hc'
              go_wp2_with (go_quiet ((go_at_call 63; first | exact Calls.quiet_of_same (HN.out _) | exact quiet_same_add HN.out)))
              go_ret
              exact ⟨by rw [← C2.out]; rfl, by first | exact HAL.out | exact below_drewN HAL.out _ | exact below_drewN (below_drewN HAL.out _) _⟩
            · rw [if_neg (by omega)] at hc'
              have d7 : decide (n < d) = false := decide_eq_false h7
              have C2 := Lib.hid hc'
              clear h6 h7 hc'
              go_upto_region 10 with (go_quiet ((go_at_call 63; first | exact Calls.quiet_of_same (HN.out _) | exact quiet_same_add HN.out)))
              clear HN d6 d7
              obtain ⟨kb, hkb⟩ : ∃ b : Bool, (k != 0) = b := ⟨_, rfl⟩
              have ekb : (¬ k = 0) = (kb = true) := by rw [← hkb]; simp
              have EKB := Lib.hid ekb
              clear ekb
              cases cb <;> cases eb <;> cases kb <;> (
                go_wp2_with (go_at_call 64; refine (HE.out _).mono ?_; rintro e w' ⟨rfl, hw'⟩; rw [hw']; clear hw' w')
                go_ret
                refine ⟨?_, by first | exact HAL.out | exact below_drewN HAL.out _ | exact below_drewN (below_drewN HAL.out _) _⟩
                rw [← C2.out]
                simp [EKB.out])
  · rw [if_pos h1] at hc'
    have e1 : (decide (2 ≤ p) && decide (p ≤ 6)) = false := by rw [Bool.eq_false_iff]; simp; omega
    rw [e1] at HK
    have C2 := Lib.hid hc'
    clear h1 hc' e1
    go_wp2_with (go_at_call 62; refine (HK.out _).mono ?_; rintro e w' ⟨rfl, hw'⟩; rw [hw']; clear hw' w')
    go_ret
    exact ⟨by rw [← C2.out]; rfl, by first | exact HAL.out | exact below_drewN HAL.out _ | exact below_drewN (below_drewN HAL.out _) _⟩
end Go.Proofs.YtdpiehhblflacaaDoor
/- Lists of infos: slices that read so; cmp.Compare, cmp.Or; Valid. -/
namespace Go.Proofs.YtdpiehhblflacaaDoor
open Go.RowKit Go.Deep

def Inf.fits (x : Inf) : Prop := I64in x.p ∧ I64in x.v ∧ I64in x.r ∧ I64in x.k ∧ I64in x.d
/-- The five cells of an info. -/
def InfAt (w : World) (x : Inf) (b off : Nat) : Prop :=
  w.cell? ⟨b, off, none⟩ = some (.int .i64 x.p) ∧ w.cell? ⟨b, off + 1, none⟩ = some (.int .i64 x.v) ∧ w.cell? ⟨b, off + 2, none⟩ = some (.int .i64 x.r) ∧ w.cell? ⟨b, off + 3, none⟩ = some (.int .i64 x.k) ∧ w.cell? ⟨b, off + 4, none⟩ = some (.int .i64 x.d)
def InfsAt (w : World) : List Inf → Nat → Nat → Prop
  | [], _, _ => True
  | x :: r, b, off => InfAt w x b off ∧ x.fits ∧ InfsAt w r b (off + 5)
/-- A slice of infos. -/
def InfS (w : World) (S : Nat → Prop) (v : Value) (l : List Inf) : Prop :=
  ∃ a c, v = .slice a l.length c ∧ l.length ≤ c ∧ c ≤ 9223372036854775807 ∧ l.length ≤ 3518437208883 ∧ (0 < l.length → ∃ b off, a = some ⟨b, off, none⟩ ∧ S b ∧ b < w.heap.size ∧ InfsAt w l b off)
theorem InfAt.same {w w' : World} {x : Inf} {b off : Nat} (h : InfAt w x b off) (e : w'.heap[b]? = w.heap[b]?) : InfAt w' x b off := by
  have hc : ∀ o, w'.cell? ⟨b, o, none⟩ = w.cell? ⟨b, o, none⟩ := fun o => by simp [World.cell?, e]
  obtain ⟨h0, h1, h2, h3, h4⟩ := h
  exact ⟨(hc _).trans h0, (hc _).trans h1, (hc _).trans h2, (hc _).trans h3, (hc _).trans h4⟩
theorem InfsAt.same {w w' : World} {b : Nat} (e : w'.heap[b]? = w.heap[b]?) : ∀ (l : List Inf) (off : Nat), InfsAt w l b off → InfsAt w' l b off := by
  intro l
  induction l with
  | nil => intros; trivial
  | cons x r ih => intro off ⟨h1, h2, h3⟩; exact ⟨h1.same e, h2, ih _ h3⟩
theorem InfsAt.zero {w : World} {S : Prop} {v : Option Addr} {l : List Inf} {b off : Nat} (h : 0 < l.length → v = some ⟨b, off, none⟩ ∧ S ∧ InfsAt w l b off) : InfsAt w l b off := by
  cases l with
  | nil => trivial
  | cons x r => exact (h (by simp)).2.2
theorem InfS.keep {w w' : World} {S S' : Nat → Prop} {v : Value} {l : List Inf} (h : InfS w S v l) (hk : ∀ b, S b → b < w.heap.size → w'.heap[b]? = w.heap[b]? ∧ S' b) : InfS w' S' v l := by
  obtain ⟨a, c, e, h1, h2, h3, h4⟩ := h
  refine ⟨a, c, e, h1, h2, h3, fun h0 => ?_⟩
  obtain ⟨b, off, ea, hb, hl, hr⟩ := h4 h0
  exact ⟨b, off, ea, (hk b hb hl).2, lt_of_same (hk b hb hl).1 hl, InfsAt.same (hk b hb hl).1 l off hr⟩
theorem InfS.form {w : World} {S : Nat → Prop} {v : Value} {l : List Inf} (h : InfS w S v l) : ∃ a c, v = .slice a l.length c := by
  obtain ⟨a, c, e, _⟩ := h; exact ⟨a, c, e⟩
/-- The slice opened: its block and where it begins. -/
theorem InfS.at {w : World} {S : Nat → Prop} {a : Option Addr} {c : Nat} {l : List Inf} (h : InfS w S (.slice a l.length c) l) : ∃ b off, 0 < l.length → a = some ⟨b, off, none⟩ ∧ (S b ∧ b < w.heap.size) ∧ InfsAt w l b off := by
  obtain ⟨a', c', e, h1, h2, h3, h4⟩ := h
  injection e with e1 _ e3
  subst e1 e3
  rcases Nat.eq_zero_or_pos l.length with h0 | h0
  · exact ⟨0, 0, fun h => by omega⟩
  · obtain ⟨b, off, g1, g2, g3, g4⟩ := h4 h0
    exact ⟨b, off, fun _ => ⟨g1, ⟨g2, g3⟩, g4⟩⟩
/-- What cmp.Compare says. -/
def cmpI (x y : Int) : Int := if x < y then -1 else if y < x then 1 else 0
set_option maxHeartbeats 1000000 in
theorem isnan_any (x : Int) (w : World) : Calls Tryd.prog 65 #[.int .i64 x] w fun e w' => e = .returned (.bool false) ∧ w' = w := by
  go_enter Tryd.func65, Tryd.ntmps65
  go_wp2_with fail
  go_ret
  exact ⟨by simp, rfl⟩
set_option maxHeartbeats 1000000 in
theorem compare_any (x y : Int) (w : World) : Calls Tryd.prog 39 #[.int .i64 x, .int .i64 y] w fun e w' => e = .returned (.int .i64 (cmpI x y)) ∧ w' = w := by
  go_enter Tryd.func39, Tryd.ntmps39
  go_wp2_with (go_at_call 65; refine (isnan_any _ _).mono ?_; rintro e w' ⟨rfl, hw'⟩; rw [hw']; clear hw' w')
  all_goals (go_ret; refine ⟨?_, rfl⟩; unfold cmpI; (repeat' split) <;> first | rfl | (exfalso; omega))
set_option maxHeartbeats 1000000 in
theorem or_any (x y : Int) (g : Nat) (w : World) (h0 : w.cell? ⟨g, 0, none⟩ = some (.int .i64 x)) (h1 : w.cell? ⟨g, 1, none⟩ = some (.int .i64 y)) :
    Calls Tryd.prog 38 #[.slice (some ⟨g, 0, none⟩) 2 2] w fun e w' => e = .returned (.int .i64 (if x = 0 then y else x)) ∧ w' = w := by
  have HA := Lib.hid h0; have HB := Lib.hid h1
  clear h0 h1
  go_enter Tryd.func38, Tryd.ntmps38
  go_wp2_with fail
  go_loopg [8] 2 (fun m i wr => ∃ j n : Nat, n = m ∧ j + n = 2 ∧ i = .int .i64 j ∧ Hid (1 ≤ j → x = 0) ∧ Hid (2 ≤ j → y = 0) ∧ wr = w)
  case atStart => exact ⟨0, 2, rfl, by omega, rfl, Lib.hid (fun h => by omega), Lib.hid (fun h => by omega), rfl⟩
  case round =>
    obtain ⟨j, n, rfl, hj, rfl, hX, hY, rfl⟩ := hrel
    obtain rfl | rfl | rfl : j = 0 ∨ j = 1 ∨ j = 2 := by omega
    · have c0 := HA.out
      obtain rfl : n = 2 := by omega
      by_cases hx : x = 0
      · subst hx
        clear hX hY
        go_wp2_with fail
        go_roundg 1
        case measure => omega
        case rel => exact ⟨1, 1, rfl, by omega, rfl, Lib.hid (by simp), Lib.hid (fun h => by omega), rfl⟩
      · have hx' : (x != 0) = true := by simp [hx]
        have HXX := Lib.hid hx
        clear hX hY hx
        go_wp2_with fail
        go_ret
        exact ⟨by simp, rfl⟩
    · have c1 := HB.out
      obtain rfl : n = 1 := by omega
      have HX0 := Lib.hid (hX.out (by omega))
      by_cases hy : y = 0
      · subst hy
        clear hX hY
        go_wp2_with fail
        go_roundg 0
        case measure => omega
        case rel => exact ⟨2, 0, rfl, by omega, rfl, Lib.hid (fun _ => HX0.out), Lib.hid (by simp), rfl⟩
      · have hx' : (y != 0) = true := by simp [hy]
        clear hX hY hy
        go_wp2_with fail
        go_ret
        exact ⟨by simp, rfl⟩
    · obtain rfl : n = 0 := by omega
      have HX0 := Lib.hid (hX.out (by omega))
      have HY0 := Lib.hid (hY.out (by omega))
      clear hX hY
      go_wp2_with fail
      go_ret
      exact ⟨by simp [HY0.out], rfl⟩
/-- Whether an info stands wrong behind the one before it. -/
def ordB : Option Inf → Inf → Bool
  | none, _ => false
  | some y, x => decide (x.p < y.p) || (decide (x.p = y.p) && decide (x.d ≤ y.d))
theorem ord_cmp (y x : Inf) : ordB (some y) x = decide (0 ≤ (if cmpI y.p x.p = 0 then cmpI y.d x.d else cmpI y.p x.p)) := by
  rw [Bool.eq_iff_iff]
  simp only [ordB, cmpI, Bool.or_eq_true, Bool.and_eq_true, decide_eq_true_eq]
  by_cases h1 : y.p < x.p <;> by_cases h2 : x.p < y.p <;> by_cases h3 : y.d < x.d <;> by_cases h4 : x.d < y.d <;> simp [h1, h2, h3, h4] <;> omega
def validF : Option Inf → List Inf → Int
  | _, [] => 0
  | q, x :: r => if ¬ chkI x = 0 then chkI x else if ordB q x = true then 17 else validF (some x) r
def validP (l : List Inf) : Int := if 16 < l.length then 2 else validF none l
def PrevAt (w : World) (b off j : Nat) : Option Inf → Prop
  | none => j = 0
  | some y => 0 < j ∧ InfAt w y b (off + (j - 1) * 5) ∧ y.fits
set_option maxRecDepth 100000 in
set_option maxHeartbeats 4000000 in
theorem svalid_any (l : List Inf) (v : Value) (S : Nat → Prop) (w : World) (hv : InfS w S v l) : Calls Tryd.prog 13 #[v] w fun e w' => e = .returned (.int .i64 (validP l)) ∧ Below w.heap.size w w' := by
  obtain ⟨a, c, rfl⟩ := hv.form
  obtain ⟨b, off, hb⟩ := hv.at
  have HB := Lib.hid hb
  have hlb : l.length ≤ 3518437208883 := by obtain ⟨_, _, e, _, _, h, _⟩ := hv; exact h
  clear hv hb
  by_cases h16 : 16 < l.length
  · have E : Hid (validP l = 2) := by show _ = _; unfold validP; rw [if_pos h16]
    go_enter Tryd.func13, Tryd.ntmps13
    go_wp2_with fail
    go_ret
    exact ⟨by rw [E.out]; rfl, Below.refl _ _⟩
  · have E : Hid (validP l = validF none l) := by show _ = _; unfold validP; rw [if_neg h16]
    go_enter Tryd.func13, Tryd.ntmps13
    go_wp2_with fail
    go_loopg [11] l.length (fun m i wr => ∃ (R : List Inf) (j : Nat) (q : Option Inf), R.length = m ∧ j + R.length = l.length ∧ i = .int .i64 j ∧ Hid (validF q R = validF none l) ∧ InfsAt w R b (off + j * 5) ∧ Hid (PrevAt w b off j q) ∧ Below w.heap.size w wr)
    case atStart => exact ⟨l, 0, none, rfl, by omega, rfl, rfl, by rw [Nat.zero_mul, Nat.add_zero]; exact InfsAt.zero HB.out, rfl, Below.refl _ _⟩
    case round =>
      obtain ⟨R, j, q, rfl, hj, rfl, hvf, hat, hpr, hg⟩ := hrel
      cases R with
      | nil =>
        simp only [List.length_nil, Nat.add_zero] at hj
        subst hj
        have HG := Lib.hid hg
        have E0 : Hid (validF none l = 0) := hvf.out.symm
        clear hat hg hvf hpr
        go_wp2_with fail
        go_ret
        exact ⟨by rw [E.out, E0.out]; rfl, HG.out⟩
      | cons x r =>
        obtain ⟨p, ve, rr, k, d⟩ := x
        have HI := Lib.hid hat.1
        obtain ⟨⟨h0, h1, h2, h3, h4⟩, hfit, hrest⟩ := hat
        simp only [List.length_cons] at hj
        obtain ⟨rfl, ⟨hbS, hbl⟩, _⟩ := HB.out (by omega)
        have q0 := (hg.cell (p := ⟨b, off + j * 5, none⟩) hbl).trans h0
        have q1 := (hg.cell (p := ⟨b, off + j * 5 + 1, none⟩) hbl).trans h1
        have q2 := (hg.cell (p := ⟨b, off + j * 5 + 2, none⟩) hbl).trans h2
        have q3 := (hg.cell (p := ⟨b, off + j * 5 + 3, none⟩) hbl).trans h3
        have q4 := (hg.cell (p := ⟨b, off + j * 5 + 4, none⟩) hbl).trans h4
        have HG := Lib.hid hg; have HR := Lib.hid hrest; have HF := Lib.hid hfit
        clear hg h0 h1 h2 h3 h4 hrest hfit
        obtain ⟨ec, hec⟩ : ∃ ec, Hid (chkI ⟨p, ve, rr, k, d⟩ = ec) := ⟨_, rfl⟩
        have HC : Hid (∀ w1, Calls Tryd.prog 37 #[.agg #[.int .i64 p, .int .i64 ve, .int .i64 rr, .int .i64 k, .int .i64 d]] w1 fun e w' => e = .returned (.int .i64 ec) ∧ Below w1.heap.size w1 w') := Lib.hid (fun w1 => by rw [← hec.out]; exact icheck_any ⟨p, ve, rr, k, d⟩ w1)
        by_cases he : ec = 0
        · have HEC : Hid (chkI ⟨p, ve, rr, k, d⟩ = 0) := hec.out.trans he
          subst he
          go_upto_region 9 with (go_at_call 37; refine (HC.out _).mono ?_; rintro e w1 ⟨rfl, hb1⟩; have x0 : w1.cell? ⟨wr.heap.size, 0, none⟩ = some (.int .i64 p) := (World.cell?_of_block (a := ⟨wr.heap.size, 0, none⟩) (hb1.block wr.heap.size (by simp))).trans (by rw [cell_of_row _ _ _ _ _ _ (heap_alloc_new _ _)]; rfl); have x4 : w1.cell? ⟨wr.heap.size, 4, none⟩ = some (.int .i64 d) := (World.cell?_of_block (a := ⟨wr.heap.size, 4, none⟩) (hb1.block wr.heap.size (by simp))).trans (by rw [cell_of_row _ _ _ _ _ _ (heap_alloc_new _ _)]; rfl); have B1 := Lib.hid (HG.out.trans (((Below.refl _ _).alloc HG.out.size _).trans (hb1.mono (by have := HG.out.size; simp; omega)))); clear hb1)
          cases q with
          | none =>
            have hj0 : j = 0 := hpr.out
            subst hj0
            clear hpr
            go_wp2_with (go_quiet (fail))
            go_roundg r.length
            case measure => simp
            case rel => exact ⟨r, 1, some ⟨p, ve, rr, k, d⟩, rfl, by omega, rfl, Lib.hid (by rw [← hvf.out, validF, if_neg (by rw [HEC.out]; simp), if_neg (by simp [ordB])]), by rw [show off + 1 * 5 = off + 0 * 5 + 5 by omega]; exact HR.out, Lib.hid ⟨by omega, HI.out, HF.out⟩, below_drewN B1.out _⟩
          | some y =>
            obtain ⟨yp, yv, yr, yk, yd⟩ := y
            obtain ⟨hj0, ⟨y0, _, _, _, y4⟩, _⟩ := hpr.out
            obtain ⟨i, rfl⟩ : ∃ i, j = i + 1 := ⟨j - 1, by omega⟩
            rw [Nat.add_sub_cancel] at y0 y4
            have g0 := (B1.out.cell (p := ⟨b, off + i * 5, none⟩) hbl).trans y0
            have g4 := (B1.out.cell (p := ⟨b, off + i * 5 + 4, none⟩) hbl).trans y4
            obtain ⟨o, ho⟩ : ∃ o, Hid (ordB (some ⟨yp, yv, yr, yk, yd⟩) ⟨p, ve, rr, k, d⟩ = o) := ⟨_, rfl⟩
            clear hpr y0 y4 hj0
            go_cut [45] from 21 to 45 (fun c wc => c = .bool o ∧ Below w.heap.size w wc)
            case first =>
              have W : Value.int .i64 (IntKind.i64.wrap (i : Int)) = .int .i64 i := by rw [IntWalk.i64_in _ (by omega)]
              have hi1 : i < l.length := by omega
              refine wp_region_still_tail 21 (by kernel_rfl) (by kernel_rfl) ?_
              simp only [List.take_succ_cons, List.take_zero, List.drop_succ_cons, List.drop_zero]
              repeat (refine wpStill_step (fun K hK => ?_); go_simp; first | (refine hK _ ?_; clear hK K) | (refine ⟨_, compare_any _ _ _, hK _ ?_⟩; clear hK K))
              refine wpStill_nil ?_
              have N0 : (w1.alloc (Obj.cells #[.int .i64 (cmpI yp p), .int .i64 (cmpI yd d)] 3)).drew.cell? ⟨w1.heap.size, 0, none⟩ = some (.int .i64 (cmpI yp p)) := by
                show (w1.alloc (Obj.cells #[.int .i64 (cmpI yp p), .int .i64 (cmpI yd d)] 3)).cell? ⟨w1.heap.size, 0, none⟩ = _
                rw [cell_of_row _ _ _ _ _ _ (heap_alloc_new _ _)]; rfl
              have N1 : (w1.alloc (Obj.cells #[.int .i64 (cmpI yp p), .int .i64 (cmpI yd d)] 3)).drew.cell? ⟨w1.heap.size, 1, none⟩ = some (.int .i64 (cmpI yd d)) := by
                show (w1.alloc (Obj.cells #[.int .i64 (cmpI yp p), .int .i64 (cmpI yd d)] 3)).cell? ⟨w1.heap.size, 1, none⟩ = _
                rw [cell_of_row _ _ _ _ _ _ (heap_alloc_new _ _)]; rfl
              have HO := Lib.hid (or_any (cmpI yp p) (cmpI yd d) w1.heap.size _ N0 N1)
              have HB2 : Hid (Below w.heap.size w (w1.alloc (Obj.cells #[.int .i64 (cmpI yp p), .int .i64 (cmpI yd d)] 3)).drew) := Lib.hid ((B1.out.alloc B1.out.size _).drew)
              clear N0 N1
              have ho' : ordB (some ⟨yp, yv, yr, yk, yd⟩) ⟨p, ve, rr, k, d⟩ = o := ho.out
              rw [ord_cmp] at ho'
              have hoc := HO.out
              obtain ⟨z, hz⟩ : ∃ z, (if cmpI yp p = 0 then cmpI yd d else cmpI yp p) = z := ⟨_, rfl⟩
              rw [hz] at hoc
              have HO' : Hid (decide (0 ≤ z) = o) := Lib.hid (by rw [← ho', ← hz])
              have HC2 := Lib.hid hoc
              clear ho' hoc hz HO
              go_wp2_with (go_at_call 38; refine HC2.out.mono ?_; rintro e w' ⟨rfl, hw'⟩; rw [hw']; clear hw' w')
              go_meet
              exact ⟨by rw [← HO'.out], HB2.out⟩
            case rest =>
              obtain ⟨rfl, hbw⟩ := hcut
              have BW := Lib.hid hbw
              clear hbw
              cases o
              · go_wp2_with fail
                go_roundg r.length
                case measure => simp
                case rel => exact ⟨r, i + 1 + 1, some ⟨p, ve, rr, k, d⟩, rfl, by omega, by go_num, Lib.hid (by rw [← hvf.out, validF, if_neg (by rw [HEC.out]; simp), if_neg (by rw [ho.out]; simp)]), by rw [show off + (i + 1 + 1) * 5 = off + (i + 1) * 5 + 5 by omega]; exact HR.out, Lib.hid ⟨by omega, by rw [Nat.add_sub_cancel]; exact HI.out, HF.out⟩, BW.out⟩
              · have E1 : Hid (validF none l = 17) := by show _ = _; rw [← hvf.out, validF, if_neg (by rw [HEC.out]; simp), if_pos ho.out]
                go_wp2_with fail
                go_ret
                exact ⟨by rw [E.out, E1.out]; rfl, BW.out⟩
        · have E1 : Hid (validF none l = ec) := by show _ = _; rw [← hvf.out]; unfold validF; rw [hec.out, if_pos he]
          have he' : (ec != 0) = true := by simp [he]
          clear hvf hpr
          go_wp2_with (go_at_call 37; refine (HC.out _).mono ?_; rintro e w1 ⟨rfl, hb1⟩; have B1 := Lib.hid (HG.out.trans (((Below.refl _ _).alloc HG.out.size _).trans (hb1.mono (by have := HG.out.size; simp; omega)))); clear hb1)
          go_ret
          exact ⟨by rw [E.out, E1.out]; rfl, B1.out⟩
end Go.Proofs.YtdpiehhblflacaaDoor
