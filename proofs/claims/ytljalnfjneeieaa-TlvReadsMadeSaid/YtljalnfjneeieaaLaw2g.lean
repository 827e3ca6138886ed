/- Layer 2: TlvEncodes, of objects that are not too many. -/
import Derived.Test.YtljalnfjneeieaaLaw2a
import Derived.Test.YtljalnfjneeieaaTlvP
import Derived.Test.YtljalnfjneeieaaSameN
import Derived.Test.YtljalnfjneeieaaShallow
import Derived.Test.YtljalnfjneeieaaFind2
namespace Go.Proofs.Ytljalnfjneeieaa
open Go.RowKit Go.Deep

theorem BsS.size' {w : World} {S : Nat → Prop} {v : Value} {l : List UInt8} (h : BsS w S v l) : BsS w (· < w.heap.size) v l := h.keep fun b _ hl => ⟨rfl, hl⟩
theorem NsS.size' {w : World} {S : Nat → Prop} {v : Value} {l : Ns} (h : NsS w S v l) : NsS w (· < w.heap.size) v l := h.keep fun b _ hl => ⟨rfl, hl⟩
theorem BsS.grow {w w' : World} {v : Value} {l : List UInt8} (h : BsS w (· < w.heap.size) v l) (hb : Below w.heap.size w w') : BsS w' (· < w'.heap.size) v l := h.keep fun b hs _ => ⟨hb.block b hs, Nat.lt_of_lt_of_le hs hb.size⟩
theorem NsS.grow {w w' : World} {v : Value} {l : Ns} (h : NsS w (· < w.heap.size) v l) (hb : Below w.heap.size w w') : NsS w' (· < w'.heap.size) v l := h.keep fun b hs _ => ⟨hb.block b hs, Nat.lt_of_lt_of_le hs hb.size⟩
theorem BsS.alloc' {w : World} {v : Value} {l : List UInt8} (h : BsS w (· < w.heap.size) v l) (o : Obj) : BsS (w.alloc o) (· < (w.alloc o).heap.size) v l := h.grow ((Below.refl _ _).alloc (Nat.le_refl _) o)
theorem NsS.alloc' {w : World} {v : Value} {l : Ns} (h : NsS w (· < w.heap.size) v l) (o : Obj) : NsS (w.alloc o) (· < (w.alloc o).heap.size) v l := h.grow ((Below.refl _ _).alloc (Nat.le_refl _) o)
set_option maxRecDepth 100000 in
set_option maxHeartbeats 4000000 in
theorem encodes_any (L : Ns) (v : Value) (vp : Value) (ps : List Int) (w : World) (hv : NsS w (· < w.heap.size) v L) (hp : IntL w (· < w.heap.size) vp ps) (ha : L.all ≤ 10000000) (hl : L.enc.length ≤ 1000000000000) :
    Calls Try.prog 9 #[v, vp] w fun e w' => e = .returned (.bool true) ∧ Below w.heap.size w w' := by
  obtain ⟨a, c, rfl⟩ := hv.form2
  have HS := Lib.hid (shallow_any L.all L (.slice a L.len c) 12 _ w (Nat.le_refl _) hv (by decide))
  have HE := Lib.hid (encode_any L (.slice a L.len c) w hv (by omega) hl)
  have HV := Lib.hid (fun (w1 : World) (h : Below w.heap.size w w1) => (hv.keep fun b hs _ => ⟨h.block b hs, Nat.lt_of_lt_of_le hs h.size⟩ : NsS w1 (· < w1.heap.size) (.slice a L.len c) L))
  have HPP := Lib.hid (fun (w1 : World) (h : Below w.heap.size w w1) => (hp.keep fun b hs _ => ⟨h.block b hs, Nat.lt_of_lt_of_le hs h.size⟩ : IntL w1 (· < w1.heap.size) vp ps))
  obtain ⟨pa, pc, rfl, _⟩ := hp
  obtain ⟨ec, hec⟩ : ∃ x, Hid (errOf (encP L) = x) := ⟨_, rfl⟩
  obtain ⟨bc, hbc⟩ : ∃ x, Hid (bytesOf (encP L) = x) := ⟨_, rfl⟩
  obtain ⟨F, hF⟩ : ∃ x, Hid (findR ps L = x) := ⟨_, rfl⟩
  have HA := Lib.hid ha
  clear hv hl ha
  go_enter Try.func9, Try.ntmps9
  go_wp2_with (go_at_call 33; refine HS.out.mono ?_; rintro e w1 ⟨⟨b, rfl⟩, hw1⟩; rw [hw1]; clear hw1 w1; cases b)
  · go_wp2_with (go_at_call 11; refine (awake_any _).mono ?_; rintro e w1 ⟨rfl, hb⟩; have HB := Lib.hid hb; clear hb)
    go_ret
    exact ⟨rfl, HB.out⟩
  · go_wp2_with (first
      | (go_at_call 23; refine HE.out.mono ?_; rintro e w1 ⟨v1, rfl, hv1, hb1⟩; rw [hbc.out] at hv1; obtain ⟨a1, c1, rfl⟩ := hv1.form2; rw [hec.out]; have V1 := Lib.hid hv1.size'; have k1 := Lib.hid hb1; clear hv1 hb1)
      | (go_at_call 34; refine (rencode_any L _ _ (HV.out _ k1.out) (by have := HA.out; omega)).mono ?_; rintro e w2 ⟨v2, rfl, hv2, hb2⟩; rw [hbc.out] at hv2; obtain ⟨a2, c2, rfl⟩ := hv2.form2; rw [hec.out]; have V1b := Lib.hid (V1.out.grow hb2); have V2 := Lib.hid hv2.size'; have k2 := Lib.hid (k1.out.trans (hb2.mono k1.out.size)); clear hv2 hb2)
      | (go_at_call 35; refine (find_any ps L _ _ _ _ (fun b h => h) (HV.out _ k2.out) (HPP.out _ k2.out) HA.out).mono ?_; rintro e w3 ⟨fv, fk, rfl, hfv, hfk, hft, hb3⟩; rw [hF.out] at hfv hfk hft ⊢; obtain ⟨fxa, fxc, rfl⟩ := hfv.form2; obtain ⟨fka, fkc, rfl⟩ := hfk.form2; have V1c := Lib.hid (V1b.out.grow hb3); have V2c := Lib.hid (V2.out.grow hb3); have k3 := Lib.hid (k2.out.trans (hb3.mono k2.out.size)); have X3 := Lib.hid hfv.size'; have Y3 := Lib.hid hfk.size'; have FT := Lib.hid hft; have z3 := k3.out.size; clear hfv hfk hft hb3)
      | (go_at_call 36; refine (rfind_any ps L _ _ _ _ _ (fun b h => h) (HV.out _ (k3.out.alloc z3 _)) (HPP.out _ (k3.out.alloc z3 _))).mono ?_; rintro e w4 ⟨rv, rk, rfl, hrv, hrk, _, hb4⟩; rw [hF.out] at hrv hrk ⊢; obtain ⟨rxa, rxc, rfl⟩ := hrv.form2; obtain ⟨rka, rkc, rfl⟩ := hrk.form2; have V1d := Lib.hid ((V1c.out.alloc' _).grow hb4); have V2d := Lib.hid ((V2c.out.alloc' _).grow hb4); have X4 := Lib.hid ((X3.out.alloc' _).grow hb4); have Y4 := Lib.hid ((Y3.out.alloc' _).grow hb4); have RX := Lib.hid hrv.size'; have RK := Lib.hid hrk.size'; have k4 := Lib.hid ((k3.out.alloc z3 (.cells #[.int .i64 F.tag, .slice fxa F.val.length fxc, .slice fka F.kids.len fkc] 42)).trans (hb4.mono (Nat.le_trans z3 (by simp)))); have n4 := Lib.hid ((hb4.block w3.heap.size (by simp)).trans (heap_alloc_new w3 _)); have z4 := k4.out.size; clear hrv hrk hb4)
      | (go_at_call 11; refine (awake_any _).mono ?_; rintro e w5 ⟨rfl, hb5⟩; have V1e := Lib.hid ((V1d.out.alloc' _).grow hb5); have V2e := Lib.hid ((V2d.out.alloc' _).grow hb5); have X5 := Lib.hid ((X4.out.alloc' _).grow hb5); have Y5 := Lib.hid ((Y4.out.alloc' _).grow hb5); have RX5 := Lib.hid ((RX.out.alloc' _).grow hb5); have RK5 := Lib.hid ((RK.out.alloc' _).grow hb5); have k5 := Lib.hid ((k4.out.alloc z4 (.cells #[.int .i64 F.tag, .slice rxa F.val.length rxc, .slice rka F.kids.len rkc] 42)).trans (hb5.mono (Nat.le_trans z4 (by simp)))); have hn := (Array.getElem?_eq_some_iff.1 n4.out).1; have hp5 := (hb5.block w3.heap.size (by simp; omega)).trans ((Below.heap_alloc _ _ _ hn).trans n4.out); have hq5 := (hb5.block w4.heap.size (by simp)).trans (heap_alloc_new w4 _); obtain ⟨p0, p1, p2, _⟩ := three hp5; obtain ⟨q0, q1, q2, _⟩ := three hq5; have hpl5 := (Array.getElem?_eq_some_iff.1 hp5).1; have hql5 := (Array.getElem?_eq_some_iff.1 hq5).1; have s1 := str_run V1e.out; have s2 := str_run V2e.out; have z5 := k5.out.size; clear hb5 hp5 hq5))
    obtain ⟨W, hW⟩ : ∃ W, W = (w5.alloc (.cells #[.int .i64 F.tag, .slice fxa F.val.length fxc, .slice fka F.kids.len fkc] 42)).alloc (.cells #[.int .i64 F.tag, .slice rxa F.val.length rxc, .slice rka F.kids.len rkc] 42) := ⟨_, rfl⟩
    have hA : W.heap[w5.heap.size]? = some (.cells #[.int .i64 F.tag, .slice fxa F.val.length fxc, .slice fka F.kids.len fkc] 42 (0, 0)) := by rw [hW]; exact (Below.heap_alloc _ _ _ (by simp)).trans (heap_alloc_new _ _)
    have hB : W.heap[w5.heap.size + 1]? = some (.cells #[.int .i64 F.tag, .slice rxa F.val.length rxc, .slice rka F.kids.len rkc] 42 (0, 0)) := by
      have h := heap_alloc_new (w5.alloc (.cells #[.int .i64 F.tag, .slice fxa F.val.length fxc, .slice fka F.kids.len fkc] 42)) (.cells #[.int .i64 F.tag, .slice rxa F.val.length rxc, .slice rka F.kids.len rkc] 42)
      rw [show (w5.alloc (.cells #[.int .i64 F.tag, .slice fxa F.val.length fxc, .slice fka F.kids.len fkc] 42)).heap.size = w5.heap.size + 1 by simp] at h
      rw [hW]; exact h
    have hBW : Below w5.heap.size w5 W := by rw [hW]; exact ((Below.refl _ _).alloc (Nat.le_refl _) _).alloc (by simp) _
    have hsz : W.heap.size = w5.heap.size + 2 := by rw [hW]; simp
    rw [← hW]
    have R := rsame_any _ (.cons F.tag F.val F.kids .nil) (.cons F.tag F.val F.kids .nil) (.slice (some ⟨w5.heap.size, 0, none⟩) 1 1) (.slice (some ⟨w5.heap.size + 1, 0, none⟩) 1 1) (· < W.heap.size) (· < W.heap.size) W (Nat.le_refl _)
      (NsS.one hA (by omega) FT.out (X5.out.grow hBW) (Y5.out.grow hBW)) (NsS.one hB (by omega) FT.out (RX5.out.grow hBW) (RK5.out.grow hBW))
    rw [Ns.same_refl] at R
    have KW := k5.out.trans (hBW.mono z5)
    clear hW hA hB hBW hsz
    refine R.mono ?_
    rintro e w6 ⟨rfl, m, rfl⟩
    go_wp2_with fail
    go_ret
    exact ⟨by simp, below_drewN KW m⟩
end Go.Proofs.Ytljalnfjneeieaa
