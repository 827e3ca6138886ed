/- Layer 14: the info of an object. -/
import Derived.Test.YtdpiehhblflacaaDoorQObjC
import Derived.Test.YtdpiehhblflacaaDoorInfoP
import Derived.Test.YtdpiehhblflacaaDoorQByteEq
import Derived.Test.YtdpiehhblflacaaDoorNumB
import Derived.Deep.LoopGhost
import Derived.Deep.CutBlock
import Derived.Test.YtdpiehhblflacaaDoorRowA
import Derived.Deep.QuietTactic
import Derived.BigQuiet
namespace Go.Proofs.YtdpiehhblflacaaDoor
open Go.RowKit Go.Deep

/-- What info answers. -/
def InfoEnd (r : Inf × Bool) (w : World) (e : Ending) (w' : World) : Prop := e = .returned (.tuple #[.agg r.1.cells, .bool r.2]) ∧ Below w.heap.size w w'
def infZ : Inf := ⟨0, 0, 0, 0, 0⟩
theorem infoA_none {t : Int} {kids : Ns} (h : infoP t kids = none) : infoA t kids = (infZ, false) := by unfold infoA; rw [h]; rfl
theorem infoA_some {t : Int} {kids : Ns} {x : Inf} (h : infoP t kids = some x) : infoA t kids = (x, true) := by unfold infoA; rw [h]
theorem five_set {w : World} {p : Nat} {a b c d e : Value} {t : TypeId} (h : w.heap[p]? = some (.cells #[a, b, c, d, e] t (0, 0))) :
    w.cell? ⟨p, 0, none⟩ = some a ∧ w.cell? ⟨p, 1, none⟩ = some b ∧ w.cell? ⟨p, 2, none⟩ = some c ∧ w.cell? ⟨p, 3, none⟩ = some d ∧ w.cell? ⟨p, 4, none⟩ = some e ∧ ∀ o, w.frozen? ⟨p, o, none⟩ = false := by
  refine ⟨?_, ?_, ?_, ?_, ?_, fun o => by simp [World.frozen?, h]⟩ <;> (rw [cell_of_row _ _ _ _ _ _ h]; rfl)
/-- Behind the store of an info into the result's box. -/
def set5 (w : World) (g : Nat) (x : Inf) : World := ((((w.setCell ⟨g, 0, none⟩ (.int .i64 x.p)).setCell ⟨g, 1, none⟩ (.int .i64 x.v)).setCell ⟨g, 2, none⟩ (.int .i64 x.r)).setCell ⟨g, 3, none⟩ (.int .i64 x.k)).setCell ⟨g, 4, none⟩ (.int .i64 x.d)
theorem set5_row {w : World} {g : Nat} {a b c d e : Value} {t : TypeId} (x : Inf) (h : w.heap[g]? = some (.cells #[a, b, c, d, e] t (0, 0))) : (set5 w g x).heap[g]? = some (.cells x.cells t (0, 0)) :=
  row_set (o := 4) (row_set (o := 3) (row_set (o := 2) (row_set (o := 1) (row_set (o := 0) h))))
theorem set5_below {w w' : World} {B g : Nat} {x : Inf} (h : Below B w w') (hg : B ≤ g) : Below B w (set5 w' g x) := ((((h.setCell hg _).setCell hg _).setCell hg _).setCell hg _).setCell hg _
theorem infoP_tag {t : Int} {kids : Ns} (h : ¬ t = 48) : infoP t kids = none := by unfold infoP; rw [if_pos h]
theorem infoP_short {t : Int} {kids : Ns} (h : kids.len < 2) : infoP t kids = none := by
  unfold infoP
  split
  · rfl
  · cases kids with
    | nil => rfl
    | cons a b c r => cases r with
      | nil => rfl
      | cons a b c r => simp only [Ns.len] at h; omega
def formV (ob : Nat) : List Fld → List Value
  | [] => []
  | (t, s, o) :: r => .int .i64 t :: .int .i64 s :: .pointer (some ⟨ob, o, none⟩) :: formV ob r
theorem formV_len (ob : Nat) (l : List Fld) : (formV ob l).length = l.length * 3 := by
  induction l with
  | nil => rfl
  | cons x r ih => obtain ⟨t, s, o⟩ := x; simp only [formV, List.length_cons, ih]; omega
theorem formV_app (ob : Nat) (l m : List Fld) : formV ob (l ++ m) = formV ob l ++ formV ob m := by
  induction l with
  | nil => rfl
  | cons x r ih => obtain ⟨t, s, o⟩ := x; simp only [formV, List.cons_append, ih]
theorem out_upd {w : World} {g : Nat} (f : Nat → Int) (o : Nat) (z : Int) {t : TypeId} (ho : o < 5) (h : w.heap[g]? = some (.cells #[.int .i64 (f 0), .int .i64 (f 1), .int .i64 (f 2), .int .i64 (f 3), .int .i64 (f 4)] t (0, 0))) :
    (w.setCell ⟨g, o, none⟩ (.int .i64 z)).heap[g]? = some (.cells #[.int .i64 (updF f o z 0), .int .i64 (updF f o z 1), .int .i64 (updF f o z 2), .int .i64 (updF f o z 3), .int .i64 (updF f o z 4)] t (0, 0)) := by
  have h2 := row_set (o := o) (v := .int .i64 z) h
  obtain rfl | rfl | rfl | rfl | rfl : o = 0 ∨ o = 1 ∨ o = 2 ∨ o = 3 ∨ o = 4 := by omega
  all_goals exact h2
theorem infoFld : (Tryd.prog.info? 82).map (fun i => (i.zero, i.size, i.bytes)) = some (some (.agg #[.int .i64 0, .int .i64 0, .pointer none]), 3, 24) := by kernel_rfl
theorem row_form {w : World} {base : Nat} {e : TypeId} {size n : Nat} {o : Value} {xs : List Value} (h : w.ownsRow base e size o n xs) : ∃ A c, o = .slice A n c := by
  rcases h.2 with ⟨rfl, rfl⟩ | ⟨g, cap, cur, hv, _⟩
  · exact ⟨_, _, rfl⟩
  · exact ⟨_, _, hv⟩
set_option maxRecDepth 100000 in
set_option maxHeartbeats 4000000 in
theorem iinfo_any (t : Int) (xv kv : Value) (kids : Ns) (w : World) (hT : TabE w) (hx : ∃ A n c, xv = .slice A n c) (hk : NsS w (· < w.heap.size) kv kids) :
    Calls Tryd.prog 33 #[.agg #[.int .i64 t, xv, kv]] w (InfoEnd (infoA t kids) w) := by
  obtain ⟨xa, xn, xc, rfl⟩ := hx
  obtain ⟨ka, kc, rfl⟩ := hk.form3
  obtain ⟨n, hn⟩ : ∃ n, kids.len = n := ⟨_, rfl⟩
  rw [hn] at hk ⊢
  obtain ⟨w0, hw0⟩ : ∃ w0, w0 = (w.alloc (.cells #[.int .i64 t, .slice xa xn xc, .slice ka n kc] 53)).alloc (.cells #[.int .i64 0, .int .i64 0, .int .i64 0, .int .i64 0, .int .i64 0] 45) := ⟨_, rfl⟩
  have hz0 : w0.heap.size = w.heap.size + 2 := by rw [hw0]; simp
  have hbx : w0.heap[w.heap.size]? = some (.cells #[.int .i64 t, .slice xa xn xc, .slice ka n kc] 53 (0, 0)) := by rw [hw0]; exact (Below.heap_alloc _ _ _ (by simp)).trans (heap_alloc_new _ _)
  have hres : w0.heap[w.heap.size + 1]? = some (.cells #[.int .i64 0, .int .i64 0, .int .i64 0, .int .i64 0, .int .i64 0] 45) := by rw [hw0]; have := heap_alloc_new (w.alloc (.cells #[.int .i64 t, .slice xa xn xc, .slice ka n kc] 53)) (.cells #[.int .i64 0, .int .i64 0, .int .i64 0, .int .i64 0, .int .i64 0] 45); simpa using this
  have hB0 : Below w.heap.size w w0 := by rw [hw0]; exact ((Below.refl _ _).alloc (Nat.le_refl _) _).alloc (by simp) _
  have HW0 := Lib.hid hw0; have HZ := Lib.hid hz0; have HBX := Lib.hid hbx; have HRES := Lib.hid hres; have HB0 := Lib.hid hB0; have HK := Lib.hid hk; have HT := Lib.hid hT
  have hkl : n ≤ 2513169434843 := by obtain ⟨_, _, _, _, _, h, _⟩ := hk; omega
  have HN := Lib.hid hn
  clear hz0 hbx hres hB0 hT hk hn
  -- a way out with nothing
  have NO := Lib.hid (fun (w1 : World) (hb : Below w0.heap.size w0 w1) (hn : infoP t kids = none) => (show InfoEnd (infoA t kids) w (.returned (.tuple #[.agg #[.int .i64 0, .int .i64 0, .int .i64 0, .int .i64 0, .int .i64 0], .bool false])) (set5 w1 (w.heap.size + 1) infZ) from by
    rw [infoA_none hn]
    exact ⟨rfl, set5_below (HB0.out.trans (hb.mono (by have := HZ.out; omega))) (by omega)⟩))
  have RN := Lib.hid (fun (w1 : World) (x : Inf) (hb : Below w0.heap.size w0 w1) => five_set (set5_row x ((hb.block (w.heap.size + 1) (by have := HZ.out; omega)).trans HRES.out)))
  by_cases h1 : t = 48
  · subst h1
    by_cases h2 : n < 2
    · have hd : decide ((n : Int) < 2) = true := decide_eq_true (by omega)
      have E := Lib.hid (NO.out w0 (Below.refl _ _) (infoP_short (by rw [HN.out]; exact h2)))
      obtain ⟨c0, c1, c2, _⟩ := node_three HBX.out
      obtain ⟨r0, r1, r2, r3, r4, rf⟩ := five_set HRES.out
      have rf0 := rf 0; have rf1 := rf 1; have rf2 := rf 2; have rf3 := rf 3; have rf4 := rf 4
      obtain ⟨y0, y1, y2, y3, y4, _⟩ := RN.out w0 infZ (Below.refl _ _)
      clear h2 rf hw0
      go_enter Tryd.func33, Tryd.ntmps33
      go_upto_region 1 with fail
      rw [← HW0.out]
      go_wp2_with fail
      exact bodyPost_ret (v := .tuple #[.agg #[.int .i64 0, .int .i64 0, .int .i64 0, .int .i64 0, .int .i64 0], .bool false]) (by simp only [set5, infZ] at y0 y1 y2 y3 y4; simp [results, Tryd.results33, go_sem, y0, y1, y2, y3, y4]) rfl E.out
    · have hd : decide ((n : Int) < 2) = false := decide_eq_false (by omega)
      have hn2 : 2 ≤ n := by omega
      cases kids with
      | nil => exact absurd (by rw [← HN.out]; simp [Ns.len]) h2
      | cons t0 v0 k0 r' =>
      cases r' with
      | nil => exact absurd (by rw [← HN.out]; simp [Ns.len]) h2
      | cons t1 v1 k1 r =>
      clear h2
      obtain ⟨ka', kc', ek, hk1, hk2, _, hk4⟩ := HK.out
      obtain ⟨kb, ko, rfl, hkb, _, hat⟩ := hk4 (by simp [Ns.len])
      injection ek with ek1 ek2 ek3
      subst ek1 ek3
      have hkn : n ≤ kc := by omega
      clear ek2 hk4 hk1
      have hkc : kc ≤ 9223372036854775807 := by unfold maxLen at hk2; exact hk2
      clear hk2
      have HAT : Hid (∀ W, Below w.heap.size w W → NsAt W (· < w.heap.size) (.cons t0 v0 k0 (.cons t1 v1 k1 r)) kb ko) := Lib.hid (fun W h => NsAt.keep (fun b hs _ => ⟨h.block b hs, hs⟩) _ _ _ hkb hkb hat)
      obtain ⟨g0, _, ⟨x0, g1, hx0⟩, _⟩ := HAT.out w0 HB0.out
      obtain ⟨a0, c0, rfl⟩ := hx0.form2
      have G0 := Lib.hid g0; have G1 := Lib.hid g1; have HX0 := Lib.hid hx0
      clear hx0 g1 hat
      by_cases h6 : t0 = 6
      · subst h6
        obtain ⟨q, hq⟩ : ∃ q, q = protP v0 := ⟨_, rfl⟩
        have HIP : Hid (infoP 48 (.cons 6 v0 k0 (.cons t1 v1 k1 r)) = fieldsP q (.cons t1 v1 k1 r)) := Lib.hid (by rw [hq]; unfold infoP; rw [if_neg (by simp)]; simp)
        have HPQ : Hid (protU v0 5 = q) := Lib.hid (by rw [hq]; exact protU_five v0)
        have HQR : Hid (q = 0 ∨ (2 ≤ q ∧ q ≤ 6)) := Lib.hid (by rw [hq]; unfold protP; (repeat' split) <;> omega)
        clear hq
        obtain ⟨c0, c1, c2, _⟩ := node_three HBX.out
        have HI := Lib.hid (fun (j : Nat) (hj : j < 5) (W : World) (h : Below w.heap.size w W) => ident_any (2 + j) W (by omega) (HT.out.below h HT.out.lt))
        clear hw0
        go_enter Tryd.func33, Tryd.ntmps33
        go_upto_region 1 with fail
        rw [← HW0.out]
        have HO0 : Hid ((w0.alloc (.cells #[.int .i64 0, .int .i64 0, .int .i64 0, .int .i64 0, .int .i64 0] 45)).heap[w0.heap.size]? = some (.cells #[.int .i64 (protU v0 0), .int .i64 0, .int .i64 0, .int .i64 0, .int .i64 0] 45 (0, 0))) := Lib.hid (heap_alloc_new _ _)
        go_wp2_with fail
        clear c0 c1 c2 g0
        go_loopg [5] 5 (fun m pv wr => ∃ j n : Nat, n = m ∧ j + n = 5 ∧ pv = .int .i64 (2 + j) ∧ wr.heap[w0.heap.size]? = some (.cells #[.int .i64 (protU v0 j), .int .i64 0, .int .i64 0, .int .i64 0, .int .i64 0] 45 (0, 0)) ∧ Below w0.heap.size w0 wr)
        case atStart => exact ⟨0, 5, rfl, rfl, rfl, HO0.out, (Below.refl _ _).alloc (Nat.le_refl _) _⟩
        case round =>
          obtain ⟨j, m, rfl, hj, rfl, hout, hbw⟩ := hrel
          have HOU := Lib.hid hout; have HBW := Lib.hid hbw
          clear hout hbw HO0
          rcases Nat.eq_zero_or_pos m with hm | hm
          · subst hm
            obtain rfl : j = 5 := by omega
            have hou := HOU.out
            rw [HPQ.out] at hou
            have HOQ := Lib.hid hou
            obtain ⟨p0, p1, p2, p3, p4, _⟩ := five_set HOQ.out
            clear hou HOU
            by_cases hq0 : q = 0
            · subst hq0
              have hn : infoP 48 (.cons 6 v0 k0 (.cons t1 v1 k1 r)) = none := by rw [HIP.out]; rfl
              have hbn : Below w0.heap.size w0 (wr.alloc (.cells #[.int .i64 2, .int .i64 1, .pointer (some ⟨w0.heap.size, 1, none⟩)] 82)) := HBW.out.alloc HBW.out.size _
              have E := Lib.hid (NO.out _ hbn hn)
              obtain ⟨r0, r1, r2, r3, r4, rf⟩ := five_set ((hbn.block (w.heap.size + 1) (by have := HZ.out; omega)).trans HRES.out)
              have rf0 := rf 0; have rf1 := rf 1; have rf2 := rf 2; have rf3 := rf 3; have rf4 := rf 4
              obtain ⟨y0, y1, y2, y3, y4, _⟩ := RN.out _ infZ hbn
              have hob : w0.heap.size < wr.heap.size := (Array.getElem?_eq_some_iff.1 HOQ.out).1
              have q0 : (wr.alloc (.cells #[.int .i64 2, .int .i64 1, .pointer (some ⟨w0.heap.size, 1, none⟩)] 82)).cell? ⟨w0.heap.size, 0, none⟩ = some (.int .i64 0) := (((Below.refl wr.heap.size wr).alloc (Nat.le_refl _) _).cell (p := ⟨w0.heap.size, 0, none⟩) hob).trans p0
              clear rf hn hbn
              go_wp2_with fail
              exact bodyPost_ret (v := .tuple #[.agg #[.int .i64 0, .int .i64 0, .int .i64 0, .int .i64 0, .int .i64 0], .bool false]) (by simp only [set5, infZ] at y0 y1 y2 y3 y4; simp [results, Tryd.results33, go_sem, y0, y1, y2, y3, y4]) rfl E.out
            · have hqn : ((q : Int) == 0) = false := by simp [hq0]
              have HQ0 := Lib.hid hq0
              clear hq0
              obtain ⟨mb, hmb⟩ : ∃ mb, (decide (q = 2) || decide (q = 3)) = mb := ⟨_, rfl⟩
              have HMB : Hid ((q = 2 ∨ q = 3) ↔ mb = true) := Lib.hid (by rw [← hmb]; simp)
              have HM : Hid (∀ w, Calls Tryd.prog 43 #[.int .i64 q] w fun e w' => e = .returned (.bool mb) ∧ w' = w) := Lib.hid (by rw [← hmb]; exact mapped_any q)
              have hob : w0.heap.size < wr.heap.size := (Array.getElem?_eq_some_iff.1 HOQ.out).1
              have q0 : (wr.alloc (.cells #[.int .i64 2, .int .i64 1, .pointer (some ⟨w0.heap.size, 1, none⟩)] 82)).cell? ⟨w0.heap.size, 0, none⟩ = some (.int .i64 q) := (((Below.refl wr.heap.size wr).alloc (Nat.le_refl _) _).cell (p := ⟨w0.heap.size, 0, none⟩) hob).trans p0
              have HOF : Hid ((wr.alloc (.cells #[.int .i64 2, .int .i64 1, .pointer (some ⟨w0.heap.size, 1, none⟩)] 82)).ownsRow wr.heap.size 82 3 (.slice (some ⟨wr.heap.size, 0, none⟩) 1 1) 1 (formV w0.heap.size [(2, 1, 1)])) := Lib.hid ⟨rfl, .inr ⟨wr.heap.size, 1, _, rfl, Nat.le_refl _, heap_alloc_new _ _, Nat.le_refl _, by simp [maxLen], rfl, rfl⟩⟩
              have HBF : Hid (Below wr.heap.size wr (wr.alloc (.cells #[.int .i64 2, .int .i64 1, .pointer (some ⟨w0.heap.size, 1, none⟩)] 82))) := Lib.hid ((Below.refl _ _).alloc (Nat.le_refl _) _)
              clear hmb
              go_upto_block 2 with fail
              obtain ⟨wf, hwf⟩ : ∃ wf, wf = wr.alloc (.cells #[.int .i64 2, .int .i64 1, .pointer (some ⟨w0.heap.size, 1, none⟩)] 82) := ⟨_, rfl⟩
              rw [← hwf] at HOF HBF q0 ⊢
              clear hwf
              go_cut [6] from 45 to 69 (fun y wc => ∃ N fa fc, y = .slice fa N fc ∧ N = (formP q).length ∧ wc.ownsRow wr.heap.size 82 3 (.slice fa N fc) N (formV w0.heap.size (formP q)) ∧ Below wr.heap.size wr wc)
              case first =>
                have z3 : (Value.agg #[.int .i64 0, .int .i64 0, .pointer none]).cells.size = 3 := rfl
                cases mb with
                | true =>
                  have hfp : formP q = [(2, 1, 1), (2, 1, 2)] := by unfold formP; rw [if_pos (HMB.out.2 rfl)]
                  have HFP := Lib.hid hfp
                  have hb63 : 1 + 1 ≤ maxLen := by simp [maxLen]
                  have hb64 : (1 + 1) * 24 ≤ 140737488355328 := by decide
                  have HC1 : Hid (([.int .i64 2, .int .i64 1, .pointer (some ⟨w0.heap.size, 2, none⟩)] : List Value).length = 1 * 3) := Lib.hid rfl
                  have HC2 : Hid (∀ u ∈ ([.int .i64 2, .int .i64 1, .pointer (some ⟨w0.heap.size, 2, none⟩)] : List Value), u.oneCell' = true) := Lib.hid (by simp [Value.oneCell'])
                  have hws : wr.heap.size ≤ (wf.alloc (.cells #[.int .i64 2, .int .i64 1, .pointer (some ⟨w0.heap.size, 2, none⟩)] 82)).heap.size := by rw [alloc_size]; have := HBF.out.size; omega
                  clear hfp
                  go_wp2_with (first | (go_at_call 43; refine (HM.out _).mono ?_; rintro e w' ⟨rfl, hw'⟩; rw [hw']; clear hw' w') | (at_builtin; (with_reducible refine wpList_row (w := wf.alloc (.cells #[.int .i64 2, .int .i64 1, .pointer (some ⟨w0.heap.size, 2, none⟩)] 82)) rfl (.tmp 54) (.tmp 57) 83 82 3 24 (.agg #[.int .i64 0, .int .i64 0, .pointer none]) rfl Tryd.underlying83 infoFld z3 (by decide) wr.heap.size (.slice (some ⟨wr.heap.size, 0, none⟩) 1 1) 1 (formV w0.heap.size [(2, 1, 1)]) rfl (HOF.out.alloc _) wf.heap.size 1 #[.int .i64 2, .int .i64 1, .pointer (some ⟨w0.heap.size, 2, none⟩)] 82 (0, 0) rfl (heap_alloc_new _ _) HC1.out HC2.out hb63 hb64 hws ?_); intro o' w' hG; obtain ⟨fa, fc, rfl⟩ : ∃ A c, o' = .slice A 2 c := row_form hG.own; have HG := Lib.hid hG; clear hG))
                  go_meet
                  refine ⟨2, _, _, rfl, by rw [HFP.out]; rfl, by rw [HFP.out]; exact HG.out.own, (HBF.out.alloc HBF.out.size _).trans HG.out.below⟩
                | false =>
                  by_cases h4 : q = 4
                  · have h4' : ((q : Int) == 4) = true := by simp [h4]
                    have hfp : formP q = [(2, 1, 1), (4, 4, 3), (2, 1, 4)] := by subst h4; rfl
                    have HFP := Lib.hid hfp
                    have hb63 : 1 + 2 ≤ maxLen := by simp [maxLen]
                    have hb64 : (1 + 2) * 24 ≤ 140737488355328 := by decide
                    have HC1 : Hid (([.int .i64 4, .int .i64 4, .pointer (some ⟨w0.heap.size, 3, none⟩), .int .i64 2, .int .i64 1, .pointer (some ⟨w0.heap.size, 4, none⟩)] : List Value).length = 2 * 3) := Lib.hid rfl
                    have HC2 : Hid (∀ u ∈ ([.int .i64 4, .int .i64 4, .pointer (some ⟨w0.heap.size, 3, none⟩), .int .i64 2, .int .i64 1, .pointer (some ⟨w0.heap.size, 4, none⟩)] : List Value), u.oneCell' = true) := Lib.hid (by simp [Value.oneCell'])
                    have hws : wr.heap.size ≤ (wf.alloc (.cells #[.int .i64 4, .int .i64 4, .pointer (some ⟨w0.heap.size, 3, none⟩), .int .i64 2, .int .i64 1, .pointer (some ⟨w0.heap.size, 4, none⟩)] 82)).heap.size := by rw [alloc_size]; have := HBF.out.size; omega
                    clear hfp h4
                    go_wp2_with (first | (go_at_call 43; refine (HM.out _).mono ?_; rintro e w' ⟨rfl, hw'⟩; rw [hw']; clear hw' w') | (at_builtin; (with_reducible refine wpList_row (w := wf.alloc (.cells #[.int .i64 4, .int .i64 4, .pointer (some ⟨w0.heap.size, 3, none⟩), .int .i64 2, .int .i64 1, .pointer (some ⟨w0.heap.size, 4, none⟩)] 82)) rfl (.tmp 63) (.tmp 68) 83 82 3 24 (.agg #[.int .i64 0, .int .i64 0, .pointer none]) rfl Tryd.underlying83 infoFld z3 (by decide) wr.heap.size (.slice (some ⟨wr.heap.size, 0, none⟩) 1 1) 1 (formV w0.heap.size [(2, 1, 1)]) rfl (HOF.out.alloc _) wf.heap.size 2 #[.int .i64 4, .int .i64 4, .pointer (some ⟨w0.heap.size, 3, none⟩), .int .i64 2, .int .i64 1, .pointer (some ⟨w0.heap.size, 4, none⟩)] 82 (0, 0) rfl (heap_alloc_new _ _) HC1.out HC2.out hb63 hb64 hws ?_); intro o' w' hG; obtain ⟨fa, fc, rfl⟩ : ∃ A c, o' = .slice A 3 c := row_form hG.own; have HG := Lib.hid hG; clear hG))
                    go_meet
                    refine ⟨3, _, _, rfl, by rw [HFP.out]; rfl, by rw [HFP.out]; exact HG.out.own, (HBF.out.alloc HBF.out.size _).trans HG.out.below⟩
                  · have h4' : ((q : Int) == 4) = false := by simp [h4]
                    have hfp : formP q = [(2, 1, 1)] := by unfold formP; rw [if_neg (fun h => by have := HMB.out.1 h; cases this), if_neg h4]
                    have HFP := Lib.hid hfp
                    clear hfp h4
                    go_wp2_with (go_at_call 43; refine (HM.out _).mono ?_; rintro e w' ⟨rfl, hw'⟩; rw [hw']; clear hw' w')
                    go_meet
                    refine ⟨1, _, _, rfl, by rw [HFP.out]; rfl, by rw [HFP.out]; exact HOF.out, HBF.out⟩
              case rest =>
                obtain ⟨N, fa, fc, rfl, hN, how, hbc⟩ := hcut
                have HN2 := Lib.hid hN; have HOW := Lib.hid how; have HBC := Lib.hid hbc
                have hN3 : N ≤ 3 := by rw [hN]; unfold formP; (repeat' split) <;> simp
                have hN1 : 1 ≤ N := by rw [hN]; unfold formP; simp
                have HBC0 := Lib.hid (HBW.out.trans (hbc.mono HBW.out.size))
                obtain ⟨c0, c1, c2, _⟩ := node_three ((HBC0.out.block w.heap.size (by have := HZ.out; omega)).trans HBX.out)
                have HOC := Lib.hid ((hbc.block w0.heap.size hob).trans HOQ.out)
                have hk1c : ¬ kc = 1 := by omega
                have hns : (n : Int) - 1 = ((n - 1 : Nat) : Int) := by omega
                have HOB := Lib.hid hob
                clear hN how hbc p0 p1 p2 p3 p4 q0 hob HOF HBF HM HOQ
                go_upto_region 17 with fail
                obtain ⟨M, hM⟩ : ∃ M, Hid (n - 1 = M) := ⟨_, Lib.hid rfl⟩
                obtain ⟨kc2, hkc2⟩ : ∃ kc2, Hid (kc - 1 = kc2) := ⟨_, Lib.hid rfl⟩
                rw [hM.out, hkc2.out]
                have hKM : (Ns.cons t1 v1 k1 r).len = M := by have h1 := HN.out; have h2 := hM.out; simp only [Ns.len] at h1 ⊢; omega
                have hMk : M ≤ kc2 := by have := hM.out; have := hkc2.out; omega
                have hMl : M ≤ 2513169434843 := by have := hM.out; omega
                have HKM := Lib.hid hKM
                clear hM hkc2 hKM hns hk1c c0 c1 c2
                by_cases hlen : M = N
                · subst hlen
                  have HAW := Lib.hid (HAT.out w (Below.refl _ _)).2.2.2.2
                  have hfo : ∀ x ∈ formP q, x.2.2 < 5 ∧ x.2.1 ≤ 7 := by
                    unfold formP; intro x hx; (repeat' split at hx) <;> simp at hx <;> (rcases hx with rfl | rfl | rfl) <;> simp
                  have HFO := Lib.hid hfo
                  have HFI : Hid (infoP 48 (.cons 6 v0 k0 (.cons t1 v1 k1 r)) = (fillP (formP q) (.cons t1 v1 k1 r) (f0P q)).map infF) := Lib.hid (by rw [HIP.out]; exact fieldsP_fill q HQ0.out _)
                  obtain ⟨g, hfa⟩ : ∃ g, fa = some ⟨g, 0, none⟩ := by
                    rcases HOW.out.2 with ⟨h, h'⟩ | ⟨g, cap, cur, hv, _⟩
                    · omega
                    · injection hv with hv; exact ⟨g, hv⟩
                  subst hfa
                  clear hfo
                  go_wp2_with fail
                  obtain ⟨wo, rfl⟩ : ∃ wo : World, wo = wr := ⟨_, rfl⟩
                  go_loopg [81] M (fun m iv wr => ∃ (D F : List Fld) (K' : Ns) (f : Nat → Int), D ++ F = formP q ∧ F.length = m ∧ iv = .int .i64 D.length ∧ D.length + F.length = M ∧ Hid (fillP F K' f = fillP (formP q) (.cons t1 v1 k1 r) (f0P q)) ∧ NsAt w (· < w.heap.size) K' kb (ko + 3 + D.length * 3) ∧ K'.len = F.length ∧
                    wr.heap[w0.heap.size]? = some (.cells #[.int .i64 (f 0), .int .i64 (f 1), .int .i64 (f 2), .int .i64 (f 3), .int .i64 (f 4)] 45 (0, 0)) ∧ wc.grownBy wr (some w0.heap.size))
                  case atStart => exact ⟨[], formP q, .cons t1 v1 k1 r, f0P q, rfl, HN2.out.symm, rfl, by rw [HN2.out]; simp, Lib.hid rfl, by rw [List.length_nil, Nat.zero_mul, Nat.add_zero]; exact HAW.out, by rw [HKM.out, HN2.out], HOC.out, World.grownBy.refl _ _⟩
                  case round =>
                    obtain ⟨D, F, K', f, hDF, rfl, rfl, hj, hfl, hat, hkl', hout, hgr⟩ := hrel
                    have HDF := Lib.hid hDF; have HOU2 := Lib.hid hout; have HGR := Lib.hid hgr
                    have HBX0 := Lib.hid (HBC0.out.trans (below_of_only hgr HBC0.out.size (Nat.le_refl _)))
                    clear hDF hout hgr
                    cases F with
                    | nil =>
                      simp only [List.length_nil, Nat.add_zero] at hj hkl'
                      obtain rfl : K' = .nil := by
                        cases K' with
                        | nil => rfl
                        | cons a b c d => simp only [Ns.len] at hkl'; omega
                      have hinf : infoA 48 (.cons 6 v0 k0 (.cons t1 v1 k1 r)) = (infF f, true) := by
                        apply infoA_some
                        rw [HFI.out, ← hfl.out]
                        rfl
                      have E : Hid (InfoEnd (infoA 48 (.cons 6 v0 k0 (.cons t1 v1 k1 r))) w (.returned (.tuple #[.agg #[.int .i64 (f 0), .int .i64 (f 1), .int .i64 (f 2), .int .i64 (f 3), .int .i64 (f 4)], .bool true])) (set5 wr (w.heap.size + 1) (infF f))) := Lib.hid (by
                        rw [hinf]
                        exact ⟨rfl, set5_below (HB0.out.trans (HBX0.out.mono (by have := HZ.out; omega))) (by omega)⟩)
                      obtain ⟨r0, r1, r2, r3, r4, rf⟩ := five_set ((HBX0.out.block (w.heap.size + 1) (by have := HZ.out; omega)).trans HRES.out)
                      have rf0 := rf 0; have rf1 := rf 1; have rf2 := rf 2; have rf3 := rf 3; have rf4 := rf 4
                      obtain ⟨y0, y1, y2, y3, y4, _⟩ := RN.out _ (infF f) HBX0.out
                      obtain ⟨p0, p1, p2, p3, p4, _⟩ := five_set HOU2.out
                      have hne0 : ¬ w.heap.size + 1 = w0.heap.size := by have := HZ.out; omega
                      subst hj
                      clear rf hinf hat hkl' hfl
                      go_wp2_with fail
                      exact bodyPost_ret (v := .tuple #[.agg #[.int .i64 (f 0), .int .i64 (f 1), .int .i64 (f 2), .int .i64 (f 3), .int .i64 (f 4)], .bool true]) (by simp only [set5, infF] at y0 y1 y2 y3 y4; simp [results, Tryd.results33, go_sem, y0, y1, y2, y3, y4]) rfl E.out
                    | cons x F =>
                      obtain ⟨tg, sz, fo⟩ := x
                      cases K' with
                      | nil => simp only [Ns.len, List.length_cons] at hkl'; omega
                      | cons t2 v2 k2 rn =>
                      simp only [Ns.len, List.length_cons] at hkl' hj
                      obtain ⟨g1, _, ⟨x2, g2, hx2⟩, _, hrest⟩ := hat
                      obtain ⟨a2, c2, rfl⟩ := hx2.form2
                      obtain ⟨hfo5, hfs7⟩ : fo < 5 ∧ sz ≤ 7 := HFO.out (tg, sz, fo) (by rw [← HDF.out]; simp)
                      have hb2 : ∀ W, Below w.heap.size w W → W.cell? ⟨kb, ko + 3 + D.length * 3, none⟩ = some (.int .i64 t2) ∧ W.cell? ⟨kb, ko + 3 + D.length * 3 + 1, none⟩ = some (.slice a2 v2.length c2) ∧ BsS W (· < w.heap.size) (.slice a2 v2.length c2) v2 := fun W h =>
                        ⟨(h.cell (p := ⟨kb, _, none⟩) hkb).trans g1, (h.cell (p := ⟨kb, _, none⟩) hkb).trans g2, hx2.keep fun b hs _ => ⟨h.block b hs, hs⟩⟩
                      have HB2 := Lib.hid hb2
                      have HRE := Lib.hid hrest
                      have HWX := Lib.hid (HB0.out.trans (HBX0.out.mono (by have := HZ.out; omega)))
                      have hrow := HOW.out.kept HGR.out (.inr (fun e => by have := (HOW.out.lt _ e).1; have h2 := HOB.out; omega))
                      have hxs : ∀ k, k < 3 → (formV w0.heap.size (formP q))[D.length * 3 + k]? = ([.int .i64 tg, .int .i64 sz, .pointer (some ⟨w0.heap.size, fo, none⟩)] : List Value)[k]? := fun k hk => by
                        rw [← HDF.out, formV_app, List.getElem?_append_right (by rw [formV_len]; omega), formV_len, Nat.add_sub_cancel_left]
                        show (_ :: _ :: _ :: formV _ F)[k]? = _
                        match k, hk with
                        | 0, _ => rfl
                        | 1, _ => rfl
                        | 2, _ => rfl
                      have hfc : ∀ k u, k < 3 → ([.int .i64 tg, .int .i64 sz, .pointer (some ⟨w0.heap.size, fo, none⟩)] : List Value)[k]? = some u → wr.cell? ⟨g, D.length * 3 + k, none⟩ = some u := fun k u hk hu => by
                        have := hrow.cells (g := g) rfl (D.length * 3 + k) u ((hxs k hk).trans hu)
                        rwa [addr_add, Nat.zero_add] at this
                      have f0 := hfc 0 _ (by omega) rfl
                      have f1 := hfc 1 _ (by omega) rfl
                      have f2 := hfc 2 _ (by omega) rfl
                      rw [Nat.add_zero] at f0
                      have hDM : D.length < M := by omega
                      clear hxs hfc hrow g1 g2 hx2 hb2 hrest
                      go_upto_region 22 with fail
                      clear f0 f1 f2
                      have hw2 : Below w0.heap.size w0 (wr.alloc (.cells #[.int .i64 tg, .int .i64 sz, .pointer (some ⟨w0.heap.size, fo, none⟩)] 82)) := HBX0.out.alloc HBX0.out.size _
                      have HW2 := Lib.hid hw2
                      obtain ⟨b0, b1, b2, _⟩ := node_three (heap_alloc_new wr (.cells #[.int .i64 tg, .int .i64 sz, .pointer (some ⟨w0.heap.size, fo, none⟩)] 82))
                      obtain ⟨k0', k1', kbs⟩ := HB2.out _ (HB0.out.trans (hw2.mono (by have := HZ.out; omega)))
                      have HKB := Lib.hid kbs
                      obtain ⟨r0, r1, r2, r3, r4, rf⟩ := five_set ((hw2.block (w.heap.size + 1) (by have := HZ.out; omega)).trans HRES.out)
                      have rf0 := rf 0; have rf1 := rf 1; have rf2 := rf 2; have rf3 := rf 3; have rf4 := rf 4
                      have BAD := Lib.hid (fun (hb : ¬ (t2 = tg ∧ v2.length = sz)) (nd : Nat) => NO.out ((wr.alloc (.cells #[.int .i64 tg, .int .i64 sz, .pointer (some ⟨w0.heap.size, fo, none⟩)] 82)).drewN nd) (below_drewN HW2.out nd) (by
                        rw [HFI.out, ← hfl.out]
                        simp only [fillP]
                        rw [if_neg hb]
                        rfl))
                      have RNB := Lib.hid (fun (nd : Nat) => RN.out ((wr.alloc (.cells #[.int .i64 tg, .int .i64 sz, .pointer (some ⟨w0.heap.size, fo, none⟩)] 82)).drewN nd) infZ (below_drewN HW2.out nd))
                      clear hw2 kbs rf
                      by_cases ht : t2 = tg
                      · by_cases hs : v2.length = sz
                        · subst ht hs
                          have hq2 : numQ2 v2 = (numV v2, 0) := by unfold numQ2; rw [if_neg (by omega)]
                          have HQ2 := Lib.hid hq2
                          have HFN : Hid (fillP F rn (updF f fo (numV v2)) = fillP (formP q) (.cons t1 v1 k1 r) (f0P q)) := Lib.hid (by rw [← hfl.out]; simp only [fillP]; rw [if_pos ⟨trivial, trivial⟩])
                          clear hq2 BAD RNB hfl
                          go_upto_region 24 with (go_quiet (fail))
                          clear b0 b1 b2 k0' k1' r0 r1 r2 r3 r4 rf0 rf1 rf2 rf3 rf4
                          have hw3 : Below wr.heap.size wr ((wr.alloc (.cells #[.int .i64 t2, .int .i64 v2.length, .pointer (some ⟨w0.heap.size, fo, none⟩)] 82)).drewN nq) := below_drewN ((Below.refl _ _).alloc (Nat.le_refl _) _) nq
                          have hbx3 : ((wr.alloc (.cells #[.int .i64 t2, .int .i64 v2.length, .pointer (some ⟨w0.heap.size, fo, none⟩)] 82)).drewN nq).heap[wr.heap.size]? = some (.cells #[.int .i64 t2, .int .i64 v2.length, .pointer (some ⟨w0.heap.size, fo, none⟩)] 82) := heap_alloc_new _ _
                          have hz3 : wr.heap.size + 1 = ((wr.alloc (.cells #[.int .i64 t2, .int .i64 v2.length, .pointer (some ⟨w0.heap.size, fo, none⟩)] 82)).drewN nq).heap.size := (alloc_size _ _).symm
                          obtain ⟨w3, he3⟩ : ∃ w3, w3 = (wr.alloc (.cells #[.int .i64 t2, .int .i64 v2.length, .pointer (some ⟨w0.heap.size, fo, none⟩)] 82)).drewN nq := ⟨_, rfl⟩
                          rw [← he3] at hw3 hbx3 hz3 ⊢
                          have HW3 := Lib.hid hw3; have HZ3 := Lib.hid hz3
                          have HW30 := Lib.hid (HBX0.out.trans (hw3.mono HBX0.out.size))
                          have HOB3 := (Array.getElem?_eq_some_iff.1 HOU2.out).1
                          have x2 : ∀ W, w3.grownBy W (some w0.heap.size) → W.cell? ⟨wr.heap.size, 2, none⟩ = some (.pointer (some ⟨w0.heap.size, fo, none⟩)) := fun W h => by
                            have e := (h.block wr.heap.size (by omega) (by intro e; injection e with e; have := HOB3; omega)).trans hbx3
                            rw [cell_of_row _ _ _ _ _ _ e]; rfl
                          have k2 : ∀ W, w3.grownBy W (some w0.heap.size) → W.cell? ⟨kb, ko + 3 + D.length * 3 + 1, none⟩ = some (.slice a2 v2.length c2) ∧ BsS W (· < w.heap.size) (.slice a2 v2.length c2) v2 := fun W h => (HB2.out W (HB0.out.trans ((HW30.out.trans (below_of_only h HW30.out.size (Nat.le_refl _))).mono (by have := HZ.out; omega)))).2
                          have HO4 := Lib.hid ((HW3.out.block w0.heap.size (Array.getElem?_eq_some_iff.1 HOU2.out).1).trans HOU2.out)
                          have hex : ∃ u, w3.drew.cell? ⟨w0.heap.size, fo, none⟩ = some u := by
                            rw [show w3.drew.cell? ⟨w0.heap.size, fo, none⟩ = w3.cell? ⟨w0.heap.size, fo, none⟩ from rfl, cell_of_row _ _ _ _ _ _ HO4.out]
                            exact ⟨_, Array.getElem?_eq_getElem (by simpa using hfo5)⟩
                          have hfr : w3.drew.frozen? ⟨w0.heap.size, fo, none⟩ = false := (five_set HO4.out).2.2.2.2.2 fo
                          have X3 := Lib.hid x2; have K3 := Lib.hid k2
                          clear x2 k2 hw3 hbx3 hz3 he3 HOB3
                          refine wp_region_rg 13 [some 107, some 108, some 109, some 110, some 111, some 112, some 113, some 114, some 106, some 115, some 116, some 117, none] [[], [0], [], [], [2, 3], [2, 3, 4], [2, 3, 4, 5], [2, 3, 4, 5, 6], [2, 3, 4, 5, 6, 7], [2, 3, 4, 5, 6, 7, 8], [2, 3, 4, 5, 6, 7, 8], [0, 1, 2, 3, 4, 5, 6, 7, 8, 9], [0, 1, 2, 3, 4, 5, 6, 7, 8, 9, 11]]
                            (fun L _ w1 => w3.grownBy w1 (some w0.heap.size) ∧ (L 12 = false → w1 = w3.drew) ∧ (L 12 = true → w1.heap[w0.heap.size]? = some (.cells #[.int .i64 (updF f fo (numV v2) 0), .int .i64 (updF f fo (numV v2) 1), .int .i64 (updF f fo (numV v2) 2), .int .i64 (updF f fo (numV v2) 3), .int .i64 (updF f fo (numV v2) 4)] 45 (0, 0)))) (fun _ _ => True)
                            [fun v _ => v 0 = .pointer (some ⟨wr.heap.size, 2, none⟩),
                             fun v _ => v 1 = .pointer (some ⟨w0.heap.size, fo, none⟩),
                             fun v _ => v 2 = .slice (some ⟨kb, ko + 3, none⟩) M kc2,
                             fun v _ => v 3 = .int .i64 D.length,
                             fun v _ => v 4 = .pointer (some ⟨kb, ko + 3 + D.length * 3, none⟩),
                             fun v _ => v 5 = .pointer (some ⟨kb, ko + 3 + D.length * 3 + 1, none⟩),
                             fun v _ => v 6 = .slice a2 v2.length c2,
                             fun v w1 => v 7 = .tuple #[.int .i64 (numV v2), .int .i64 0],
                             fun v w1 => v 8 = .tuple #[.int .i64 (numV v2), .int .i64 0],
                             fun v w1 => v 9 = .int .i64 (numV v2),
                             fun v w1 => v 10 = .int .i64 0,
                             fun v _ => v 11 = .pointer (some ⟨w0.heap.size, fo, none⟩),
                             fun v w1 => True]
                            (by kernel_rfl) (by kernel_rfl) (fun _ => ⟨only_drew (World.grownBy.refl _ _), fun _ => rfl, fun h => by cases h⟩) ?st ?steps ?tail
                          case st =>
                            exact (.cons (fun _ _ _ _ _ _ h => h) (.cons (fun _ _ _ _ _ _ h => h) (.cons (fun _ _ _ _ _ _ h => h) (.cons (fun _ _ _ _ _ _ h => h) (.cons (fun _ _ _ _ _ _ h => h) (.cons (fun _ _ _ _ _ _ h => h) (.cons (fun _ _ _ _ _ _ h => h) (.cons (fun _ _ _ _ _ _ h => h) (.cons (fun _ _ _ _ _ _ h => h) (.cons (fun _ _ _ _ _ _ h => h) (.cons (fun _ _ _ _ _ _ h => h) (.cons (fun _ _ _ _ _ _ h => h) (.cons (fun _ _ _ _ _ _ h => h) .nil)))))))))))))
                          case steps =>
                            simp only [List.take_succ_cons, List.take_zero]
                            refine (.cons ?_ (.cons ?_ (.cons ?_ (.cons ?_ (.cons ?_ (.cons ?_ (.cons ?_ (.cons ?_ (.cons ?_ (.cons ?_ (.cons ?_ (.cons ?_ (.cons ?_ .nil)))))))))))))
                            all_goals (intro L v w1 hJ hL hA hF K hK; simp only [fillRG, Act.put, Nat.zero_add, Nat.reduceAdd, List.setIfInBounds_toArray, List.set_cons_zero, List.set_cons_succ] at hK ⊢)
                            · go_simp
                              refine hK _ _ hJ trivial ?_
                              first | exact rfl | exact val_mod _
                            · have e0 : v 0 = .pointer (some ⟨wr.heap.size, 2, none⟩) := hF 0 (hA 0 (by simp))
                              have c0 := X3.out _ hJ.1
                              simp only [e0] at hK
                              go_simp
                              refine hK _ _ hJ trivial ?_
                              first | exact rfl | exact val_mod _
                            · go_simp
                              refine hK _ _ hJ trivial ?_
                              first | exact rfl | exact val_mod _
                            · go_simp
                              refine hK _ _ hJ trivial ?_
                              first | exact rfl | exact val_mod _
                            · have e2 : v 2 = .slice (some ⟨kb, ko + 3, none⟩) M kc2 := hF 2 (hA 2 (by simp))
                              have e3 : v 3 = .int .i64 D.length := hF 3 (hA 3 (by simp))
                              simp only [e2, e3] at hK
                              go_simp
                              refine hK _ _ hJ trivial ?_
                              first | exact rfl | exact val_mod _
                            · have e4 : v 4 = .pointer (some ⟨kb, ko + 3 + D.length * 3, none⟩) := hF 4 (hA 4 (by simp))
                              simp only [e4] at hK
                              go_simp
                              refine hK _ _ hJ trivial ?_
                              first | exact rfl | exact val_mod _
                            · have e5 : v 5 = .pointer (some ⟨kb, ko + 3 + D.length * 3 + 1, none⟩) := hF 5 (hA 5 (by simp))
                              have c0 := (K3.out _ hJ.1).1
                              simp only [e5] at hK
                              go_simp
                              refine hK _ _ hJ trivial ?_
                              first | exact rfl | exact val_mod _
                            · have e6 : v 6 = .slice a2 v2.length c2 := hF 6 (hA 6 (by simp))
                              simp only [e6] at hK
                              have HNU := Lib.hid (bnumber_any v2 _ _ w1 (K3.out _ hJ.1).2)
                              rw [HQ2.out] at HNU
                              go_simp
                              refine HNU.out.mono ?_
                              rintro e w5 ⟨rfl, hw5⟩
                              rw [hw5]
                              exact hK _ _ hJ trivial rfl
                            · have e7 : v 7 = .tuple #[.int .i64 (numV v2), .int .i64 0] := hF 7 (hA 7 (by simp))
                              simp only [e7] at hK
                              go_simp
                              exact hK _ _ hJ trivial rfl
                            · have e8 : v 8 = .tuple #[.int .i64 (numV v2), .int .i64 0] := hF 8 (hA 8 (by simp))
                              simp only [e8] at hK
                              go_simp
                              exact hK _ _ hJ trivial rfl
                            · have e8 : v 8 = .tuple #[.int .i64 (numV v2), .int .i64 0] := hF 8 (hA 8 (by simp))
                              simp only [e8] at hK
                              go_simp
                              exact hK _ _ hJ trivial rfl
                            · have e1 : v 1 = .pointer (some ⟨w0.heap.size, fo, none⟩) := hF 1 (hA 1 (by simp))
                              simp only [e1] at hK
                              go_simp
                              refine hK _ _ hJ trivial ?_
                              first | exact rfl | exact val_mod _
                            · have e11 : v 11 = .pointer (some ⟨w0.heap.size, fo, none⟩) := hF 11 (hA 11 (by simp))
                              simp only [e11] at hK
                              have e11 : v 11 = .pointer (some ⟨w0.heap.size, fo, none⟩) := hF 11 (hA 11 (by simp))
                              have e9 : v 9 = .int .i64 (numV v2) := hF 9 (hA 9 (by simp))
                              have ew := hJ.2.1 hL
                              subst ew
                              obtain ⟨u, hu⟩ := hex
                              go_simp
                              simp only [e9] at hK
                              exact hK undef _ ⟨only_setCell hJ.1 (.inl rfl) _, fun h => (by cases h), fun _ => out_upd f fo (numV v2) hfo5 HO4.out⟩ trivial trivial
                          case tail =>
                            intro v w1 hJ hF
                            have e0 : v 0 = .pointer (some ⟨wr.heap.size, 2, none⟩) := hF 0 (by simp)
                            have e1 : v 1 = .pointer (some ⟨w0.heap.size, fo, none⟩) := hF 1 (by simp)
                            have e2 : v 2 = .slice (some ⟨kb, ko + 3, none⟩) M kc2 := hF 2 (by simp)
                            have e3 : v 3 = .int .i64 D.length := hF 3 (by simp)
                            have e4 : v 4 = .pointer (some ⟨kb, ko + 3 + D.length * 3, none⟩) := hF 4 (by simp)
                            have e5 : v 5 = .pointer (some ⟨kb, ko + 3 + D.length * 3 + 1, none⟩) := hF 5 (by simp)
                            have e6 : v 6 = .slice a2 v2.length c2 := hF 6 (by simp)
                            have e11 : v 11 = .pointer (some ⟨w0.heap.size, fo, none⟩) := hF 11 (by simp)
                            simp only [List.drop_succ_cons, List.drop_zero, fillRG, Act.put, Nat.zero_add, Nat.reduceAdd, List.setIfInBounds_toArray, List.set_cons_zero, List.set_cons_succ]
                            have HJ := Lib.hid hJ.1
                            have HO5 := Lib.hid (hJ.2.2 rfl)
                            clear hJ hF hex hfr
                            go_wp2_with fail
                            go_roundg F.length
                            case measure => simp
                            case rel =>
                              refine ⟨D ++ [(t2, v2.length, fo)], F, rn, updF f fo (numV v2), by rw [List.append_assoc]; exact HDF.out, rfl, by rw [List.length_append, List.length_singleton]; go_num, by rw [List.length_append, List.length_singleton]; omega, HFN, by rw [List.length_append, List.length_singleton, show ko + 3 + (D.length + 1) * 3 = ko + 3 + D.length * 3 + 3 by omega]; exact HRE.out, by omega, HO5.out, ?_⟩
                              exact only_trans HGR.out (only_trans (only_of_below HW3.out _) HJ.out)
                        · have ht' : ((t2 : Int) != tg) = false := by simp [ht]
                          have hs' : ((v2.length : Int) != (sz : Int)) = true := by rw [bne_iff_ne]; omega
                          have HB := Lib.hid (BAD.out (fun h => hs h.2))
                          clear ht hs
                          go_quiet (fail)
                          go_wp2_with fail
                          obtain ⟨y0, y1, y2, y3, y4, _⟩ := RNB.out nq
                          exact bodyPost_ret (v := .tuple #[.agg #[.int .i64 0, .int .i64 0, .int .i64 0, .int .i64 0, .int .i64 0], .bool false]) (by simp only [set5, infZ] at y0 y1 y2 y3 y4; simp [results, Tryd.results33, go_sem, y0, y1, y2, y3, y4]) rfl (HB.out nq)
                      · have ht' : ((t2 : Int) != tg) = true := by simp [ht]
                        have HB := Lib.hid (BAD.out (fun h => ht h.1))
                        clear ht
                        go_quiet (fail)
                        go_wp2_with fail
                        obtain ⟨y0, y1, y2, y3, y4, _⟩ := RNB.out nq
                        exact bodyPost_ret (v := .tuple #[.agg #[.int .i64 0, .int .i64 0, .int .i64 0, .int .i64 0, .int .i64 0], .bool false]) (by simp only [set5, infZ] at y0 y1 y2 y3 y4; simp [results, Tryd.results33, go_sem, y0, y1, y2, y3, y4]) rfl (HB.out nq)
                · have hne1 : ((M : Int) != (N : Int)) = true := by rw [bne_iff_ne]; omega
                  have hnn : infoP 48 (.cons 6 v0 k0 (.cons t1 v1 k1 r)) = none := by
                    rw [HIP.out, fieldsP_fill q HQ0.out, fillP_len _ _ _ (by rw [HKM.out, ← HN2.out]; exact hlen)]; rfl
                  have E := Lib.hid (NO.out _ HBC0.out hnn)
                  obtain ⟨r0, r1, r2, r3, r4, rf⟩ := five_set ((HBC0.out.block (w.heap.size + 1) (by have := HZ.out; omega)).trans HRES.out)
                  have rf0 := rf 0; have rf1 := rf 1; have rf2 := rf 2; have rf3 := rf 3; have rf4 := rf 4
                  obtain ⟨y0, y1, y2, y3, y4, _⟩ := RN.out _ infZ HBC0.out
                  clear rf hnn hlen
                  go_wp2_with fail
                  exact bodyPost_ret (v := .tuple #[.agg #[.int .i64 0, .int .i64 0, .int .i64 0, .int .i64 0, .int .i64 0], .bool false]) (by simp only [set5, infZ] at y0 y1 y2 y3 y4; simp [results, Tryd.results33, go_sem, y0, y1, y2, y3, y4]) rfl E.out
          · obtain ⟨m, rfl⟩ : ∃ k, m = k + 1 := ⟨m - 1, by omega⟩
            have hj5 : j < 5 := by omega
            have hd6 : decide ((2 : Int) + j ≤ 6) = true := decide_eq_true (by omega)
            obtain ⟨o, ho⟩ : ∃ o, decide (v0 = identB (2 + j)) = o := ⟨_, rfl⟩
            have HO := Lib.hid ho
            have HWW : Hid (Below w.heap.size w wr) := Lib.hid (HB0.out.trans (HBW.out.mono HB0.out.size))
            have x2 : ∀ W, Below wr.heap.size wr W → W.cell? ⟨w.heap.size, 2, none⟩ = some (.slice (some ⟨kb, ko, none⟩) n kc) := fun W h => by
              have e := ((h.mono HBW.out.size).block w.heap.size (by have := HZ.out; omega)).trans ((HBW.out.block w.heap.size (by have := HZ.out; omega)).trans HBX.out)
              rw [cell_of_row _ _ _ _ _ _ e]; rfl
            have y2 : ∀ W, Below wr.heap.size wr W → W.cell? ⟨kb, ko + 1, none⟩ = some (.slice a0 v0.length c0) := fun W h => by
              have e := ((h.mono HBW.out.size).block kb (by have := HZ.out; omega)).trans (HBW.out.block kb (by have := HZ.out; omega))
              rw [show W.cell? ⟨kb, ko + 1, none⟩ = w0.cell? ⟨kb, ko + 1, none⟩ by simp [World.cell?, e]]
              exact G1.out
            have z2 : ∀ W, Below wr.heap.size wr W → BsS W (· < w.heap.size) (.slice a0 v0.length c0) v0 := fun W h => HX0.out.keep fun b hs _ => ⟨((h.mono HBW.out.size).block b (by have := HZ.out; omega)).trans (HBW.out.block b (by have := HZ.out; omega)), hs⟩
            have X2 := Lib.hid x2; have Y2 := Lib.hid y2; have Z2 := Lib.hid z2
            have HIJ := Lib.hid (fun W (h : Below wr.heap.size wr W) => HI.out j hj5 W (HWW.out.trans (h.mono HWW.out.size)))
            clear ho x2 y2 z2
            go_upto_region 7 with fail
            refine wp_region_rg 8 [some 32, some 33, some 34, some 35, some 36, some 37, some 38, some 39] [[], [0], [0, 1], [0, 1, 2], [0, 1, 2, 3], [], [5], [0, 1, 2, 3, 4, 5, 6]]
              (fun _ _ w1 => Below wr.heap.size wr w1) (fun w1 w2 => Below w1.heap.size w1 w2)
              [fun v _ => v 0 = .pointer (some ⟨w.heap.size, 2, none⟩),
               fun v _ => v 1 = .slice (some ⟨kb, ko, none⟩) n kc,
               fun v _ => v 2 = .pointer (some ⟨kb, ko, none⟩),
               fun v _ => v 3 = .pointer (some ⟨kb, ko + 1, none⟩),
               fun v _ => v 4 = .slice a0 v0.length c0,
               fun v _ => v 5 = .int .i64 (2 + j),
               fun v w1 => BsS w1 (New wr w1) (v 6) (identB (2 + j)),
               fun v w1 => v 7 = .bool o]
              (by kernel_rfl) (by kernel_rfl) (fun _ => (Below.refl _ _).drew) ?st ?steps ?tail
            case st =>
              exact (.cons (fun _ _ _ _ _ _ h => h) (.cons (fun _ _ _ _ _ _ h => h) (.cons (fun _ _ _ _ _ _ h => h) (.cons (fun _ _ _ _ _ _ h => h) (.cons (fun _ _ _ _ _ _ h => h) (.cons (fun _ _ _ _ _ _ h => h) (.cons (fun _ _ _ _ _ hr h => BsS.keep h fun b hs hl => ⟨hr.block b hl, hs.1, Nat.lt_of_lt_of_le hs.2 hr.size⟩) (.cons (fun _ _ _ _ _ _ h => h) .nil))))))))
            case steps =>
              simp only [List.take_succ_cons, List.take_zero]
              refine (.cons ?_ (.cons ?_ (.cons ?_ (.cons ?_ (.cons ?_ (.cons ?_ (.cons ?_ (.cons ?_ .nil))))))))
              all_goals (intro L v w1 hJ hL hA hF K hK; simp only [fillRG, Act.put, Nat.zero_add, Nat.reduceAdd, List.setIfInBounds_toArray, List.set_cons_zero, List.set_cons_succ] at hK ⊢)
              · go_simp
                refine hK _ _ hJ (Below.refl _ _) ?_
                first | exact rfl | exact val_mod _
              · have e0 : v 0 = .pointer (some ⟨w.heap.size, 2, none⟩) := hF 0 (hA 0 (by simp))
                have c0 := (X2.out _ hJ)
                simp only [e0] at hK
                go_simp
                refine hK _ _ hJ (Below.refl _ _) ?_
                first | exact rfl | exact val_mod _
              · have e1 : v 1 = .slice (some ⟨kb, ko, none⟩) n kc := hF 1 (hA 1 (by simp))
                have hn0 : 0 < n := by omega
                simp only [e1] at hK
                go_simp
                refine hK _ _ hJ (Below.refl _ _) ?_
                first | exact rfl | exact val_mod _
              · have e2 : v 2 = .pointer (some ⟨kb, ko, none⟩) := hF 2 (hA 2 (by simp))
                simp only [e2] at hK
                go_simp
                refine hK _ _ hJ (Below.refl _ _) ?_
                first | exact rfl | exact val_mod _
              · have e3 : v 3 = .pointer (some ⟨kb, ko + 1, none⟩) := hF 3 (hA 3 (by simp))
                have c0 := (Y2.out _ hJ)
                simp only [e3] at hK
                go_simp
                refine hK _ _ hJ (Below.refl _ _) ?_
                first | exact rfl | exact val_mod _
              · go_simp
                refine hK _ _ hJ (Below.refl _ _) ?_
                first | exact rfl | exact val_mod _
              · have e5 : v 5 = .int .i64 (2 + j) := hF 5 (hA 5 (by simp))
                simp only [e5] at hK
                go_simp
                refine (HIJ.out _ hJ).mono ?_
                rintro e w5 ⟨v5, rfl, h1, h2⟩
                exact hK _ _ (hJ.trans (h2.mono hJ.size)) h2 (h1.keep fun b hs _ => ⟨rfl, Nat.le_trans hJ.size hs.1, hs.2⟩)
              · have e4 : v 4 = .slice a0 v0.length c0 := hF 4 (hA 4 (by simp))
                simp only [e4] at hK
                have h6 : BsS w1 (New wr w1) (v 6) (identB (2 + j)) := hF 6 (hA 6 (by simp))
                obtain ⟨a6, c6, r6⟩ := h6.form2
                rw [r6] at h6
                have HQ := Lib.hid (bequal_any _ _ v0 (identB (2 + j)) _ _ w1 (Z2.out _ hJ) h6)
                rw [HO.out] at HQ
                clear h6
                simp only [r6] at hK
                go_simp
                refine HQ.out.mono ?_
                rintro e w5 ⟨rfl, hw5⟩
                rw [hw5]
                exact hK _ _ hJ (Below.refl _ _) rfl
            case tail =>
              intro v w1 hJ hF
              have e0 : v 0 = .pointer (some ⟨w.heap.size, 2, none⟩) := hF 0 (by simp)
              have e1 : v 1 = .slice (some ⟨kb, ko, none⟩) n kc := hF 1 (by simp)
              have e2 : v 2 = .pointer (some ⟨kb, ko, none⟩) := hF 2 (by simp)
              have e3 : v 3 = .pointer (some ⟨kb, ko + 1, none⟩) := hF 3 (by simp)
              have e4 : v 4 = .slice a0 v0.length c0 := hF 4 (by simp)
              have e5 : v 5 = .int .i64 (2 + j) := hF 5 (by simp)
              have e7 : v 7 = .bool o := hF 7 (by simp)
              simp only [List.drop_succ_cons, List.drop_zero, fillRG, Act.put, Nat.zero_add, Nat.reduceAdd, List.setIfInBounds_toArray, List.set_cons_zero, List.set_cons_succ]
              have HJ := Lib.hid hJ
              have e7' := e7
              clear hJ hF
              obtain ⟨b7, hb7⟩ : ∃ b, b = v 7 := ⟨_, rfl⟩
              rw [← hb7] at e7' ⊢
              subst e7'
              clear hb7
              have HO7 := Lib.hid ((HJ.out.block w0.heap.size (Array.getElem?_eq_some_iff.1 HOU.out).1).trans HOU.out)
              have HB7 := Lib.hid (HBW.out.trans (HJ.out.mono HBW.out.size))
              cases o
              · have HPU : Hid (protU v0 (j + 1) = protU v0 j) := Lib.hid (by simp only [protU]; exact if_neg (of_decide_eq_false HO.out))
                go_wp2_with fail
                go_roundg m
                case measure => omega
                case rel => exact ⟨j + 1, m, rfl, by omega, by go_num, by rw [HPU.out]; exact HO7.out, HB7.out⟩
              · have HPU : Hid (protU v0 (j + 1) = 2 + j) := Lib.hid (by simp only [protU]; exact if_pos (of_decide_eq_true HO.out))
                obtain ⟨p0, _, _, _, _, pf⟩ := five_set HO7.out
                have pf0 := pf 0
                clear pf
                go_wp2_with fail
                go_roundg m
                case measure => omega
                case rel => exact ⟨j + 1, m, rfl, by omega, by go_num, by rw [HPU.out]; exact row_set (o := 0) HO7.out, HB7.out.setCell (Nat.le_refl _) _⟩
      · have h6' : ((t0 : Int) != 6) = true := by simp [h6]
        have hn : infoP 48 (.cons t0 v0 k0 (.cons t1 v1 k1 r)) = none := by unfold infoP; rw [if_neg (by simp)]; simp only []; rw [if_neg h6]
        have E := Lib.hid (NO.out w0 (Below.refl _ _) hn)
        obtain ⟨c0, c1, c2, _⟩ := node_three HBX.out
        obtain ⟨r0, r1, r2, r3, r4, rf⟩ := five_set HRES.out
        have rf0 := rf 0; have rf1 := rf 1; have rf2 := rf 2; have rf3 := rf 3; have rf4 := rf 4
        obtain ⟨y0, y1, y2, y3, y4, _⟩ := RN.out w0 infZ (Below.refl _ _)
        clear rf hw0 hn h6
        go_enter Tryd.func33, Tryd.ntmps33
        go_upto_region 1 with fail
        rw [← HW0.out]
        go_wp2_with fail
        exact bodyPost_ret (v := .tuple #[.agg #[.int .i64 0, .int .i64 0, .int .i64 0, .int .i64 0, .int .i64 0], .bool false]) (by simp only [set5, infZ] at y0 y1 y2 y3 y4; simp [results, Tryd.results33, go_sem, y0, y1, y2, y3, y4]) rfl E.out
  · have h1' : ((t : Int) != 48) = true := by simp [h1]
    have E := Lib.hid (NO.out w0 (Below.refl _ _) (infoP_tag h1))
    obtain ⟨c0, c1, c2, _⟩ := node_three HBX.out
    obtain ⟨r0, r1, r2, r3, r4, rf⟩ := five_set HRES.out
    have rf0 := rf 0; have rf1 := rf 1; have rf2 := rf 2; have rf3 := rf 3; have rf4 := rf 4
    obtain ⟨y0, y1, y2, y3, y4, _⟩ := RN.out w0 infZ (Below.refl _ _)
    clear h1 rf hw0
    go_enter Tryd.func33, Tryd.ntmps33
    go_upto_region 1 with fail
    rw [← HW0.out]
    go_wp2_with fail
    exact bodyPost_ret (v := .tuple #[.agg #[.int .i64 0, .int .i64 0, .int .i64 0, .int .i64 0, .int .i64 0], .bool false]) (by simp only [set5, infZ] at y0 y1 y2 y3 y4; simp [results, Tryd.results33, go_sem, y0, y1, y2, y3, y4]) rfl E.out
end Go.Proofs.YtdpiehhblflacaaDoor
