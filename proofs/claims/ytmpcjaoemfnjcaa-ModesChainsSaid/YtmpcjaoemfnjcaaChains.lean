/- The walk of the statement ModesChains. -/
import Derived.Test.YtmpcjaoemfnjcaaLaw6a
import Derived.Deep.RegionWith
import Derived.Deep.CutRange
import DevTgt
namespace Go.Proofs.Ytmpcjaoemfnjcaa
open Go.RowKit

theorem quietAdd {P : Program} {f : FuncId} {args : Array Value} {w : World} {a n : Nat} {v : Value}
    (h : Calls P f args (w.drewN (a + n)) fun e w' => e = .returned v ∧ ∃ m, w' = (w.drewN (a + n)).drewN m) :
    Calls P f args (w.drewN (a + n)) fun e w'' => e = .returned v ∧ ∃ m, w'' = w.drewN (a + m) :=
  h.mono fun _ _ ⟨he, m, hm⟩ => ⟨he, n + m, by rw [hm, World.drewN_drewN, Nat.add_assoc]⟩
theorem sameT (va vb : Value) (l l' : List UInt8) (hl : l = l') (w : World) (ha : Bs w w.heap.size va l) (hb : Bs w w.heap.size vb l') :
    Calls Try.prog 16 #[va, vb] w fun e w' => e = .returned (.bool true) ∧ ∃ n, w' = w.drewN n := by
  subst hl
  have h := same_any va vb l l _ _ w ha hb
  simpa using h
theorem addrOf {w : World} {S : Nat → Prop} {A : Option Addr} {n c : Nat} {l : List UInt8} (h : BsS w S (.slice A n c) l) (hl : 0 < l.length) : ∃ b off, A = some ⟨b, off, none⟩ := by
  obtain ⟨_, _, hv, _, _, _, h4⟩ := h
  injection hv with ha hn hc
  obtain ⟨b, off, e, _⟩ := h4 hl
  exact ⟨b, off, ha.trans e⟩
/-- A cut from a place on. -/
theorem cutOn {w : World} {S : Nat → Prop} {b off n c : Nat} {l : List UInt8} (h : BsS w S (.slice (some ⟨b, off, none⟩) n c) l) (k : Nat) (hk : k ≤ l.length) : BsS w S (.slice (some ⟨b, off + k, none⟩) (n - k) (c - k)) (l.drop k) := by
  obtain ⟨a, c', hv, h1, h2, h3, h4⟩ := h
  injection hv with ha hn hc
  subst ha hc hn
  refine ⟨_, c - k, by rw [List.length_drop], by rw [List.length_drop]; omega, by omega, by rw [List.length_drop]; omega, fun hp => ?_⟩
  rw [List.length_drop] at hp
  obtain ⟨b', off', e, hb, hcell⟩ := h4 (by omega)
  injection e with e
  injection e with e1 e2
  subst e1 e2
  refine ⟨b, off + k, rfl, hb, fun j hj => ?_⟩
  rw [List.length_drop] at hj
  rw [Nat.add_assoc, hcell (k + j) (by omega)]
  congr 2
  unfold gb
  rw [List.getD_eq_getElem?_getD, List.getD_eq_getElem?_getD, List.getElem?_drop]
theorem cutOn2 {w : World} {S : Nat → Prop} {b off n c : Nat} {l : List UInt8} (h : BsS w S (.slice (some ⟨b, off, none⟩) n c) l) (k : Nat) (hk : k ≤ l.length) (n' c' : Nat) (hn : n' = n - k) (hc : c' = c - k) : BsS w S (.slice (some ⟨b, off + k, none⟩) n' c') (l.drop k) := by
  subst hn hc
  exact cutOn h k hk
theorem cutEnd {w : World} {S : Nat → Prop} {A : Option Addr} {n c : Nat} {l : List UInt8} (_h : BsS w S (.slice A n c) l) (k : Nat) (hk : k = l.length) (n' c' : Nat) (hn : n' = 0) (hc : c' ≤ 9223372036854775807) : BsS w S (.slice A n' c') (l.drop k) := by
  have e : l.drop k = [] := by rw [hk]; simp
  rw [e, hn]
  exact ⟨A, c', rfl, by simp, hc, by simp, by simp⟩
/-- The padded bytes with one byte changed. -/
def chg (l : List UInt8) (i : Nat) (by_ : UInt8) : List UInt8 := l.set i (gb l i ^^^ by_)
theorem chg_len (l : List UInt8) (i : Nat) (y : UInt8) : (chg l i y).length = l.length := by simp [chg]
theorem chg_blk (l : List UInt8) (i : Nat) (y : UInt8) (j : Nat) (h : ¬ j = i / 16) : blk l j = blk (chg l i y) j := by
  unfold blk chg
  apply List.ext_getElem?
  intro q
  rw [List.getElem?_take, List.getElem?_take]
  by_cases hq : q < 16
  · rw [if_pos hq, if_pos hq, List.getElem?_drop, List.getElem?_drop, List.getElem?_set_ne (by omega)]
  · rw [if_neg hq, if_neg hq]
theorem chgOwn {w : World} {base g n cap : Nat} {l : List UInt8} (h : w.ownsRow base 5 1 (.slice (some ⟨g, 0, none⟩) (0 + n) cap) (0 + n) ([] ++ l.map U8)) (hn : n = l.length) (i : Nat) (y : UInt8) (hle : n ≤ 140737488355328) :
    Bs (w.setCell ⟨g, i, none⟩ (U8 (gb l i ^^^ y))) (w.setCell ⟨g, i, none⟩ (U8 (gb l i ^^^ y))).heap.size (.slice (some ⟨g, 0, none⟩) n cap) (chg l i y) := by
  obtain ⟨h1, _⟩ := h.stored i (U8 (gb l i ^^^ y))
  rw [List.nil_append, Nat.zero_add] at h1
  have e : (l.map U8).set i (U8 (gb l i ^^^ y)) = (chg l i y).map U8 := by unfold chg; rw [List.map_set]
  rw [e] at h1
  exact Bs.of_own h1 (by rw [chg_len]; omega)
theorem argE_chg (k iv b : List UInt8) (i : Nat) (y : UInt8) : argE (six k) (six iv) (chg (padL b) i y) = 0 := argE_of (six_len k) (six_len iv) (by rw [chg_len, padL_mod]; omega)
theorem lens4 (k iv p : List UInt8) (i : Nat) (y : UInt8) (M : Nat) (hp : p.length = 16 * M) : (sealO k iv p).length = 16 * M ∧ (sealO k iv (chg p i y)).length = 16 * M ∧ (openO k iv p).length = 16 * M ∧ (openO k iv (chg p i y)).length = 16 * M := by
  have hc : (chg p i y).length = 16 * M := by rw [chg_len, hp]
  rw [sealO_sP _ _ _ hp, sealO_sP _ _ _ hc, openO_oP _ _ _ hp, openO_oP _ _ _ hc, sP_len, sP_len, oP_len, oP_len]
  exact ⟨rfl, rfl, rfl, rfl⟩
theorem quietL {P : Program} {f : FuncId} {args : Array Value} {w : World} {a : Nat} {v : Value} (h : Calls P f args (w.drewN a) fun e w' => e = .returned v ∧ ∃ m, w' = (w.drewN a).drewN m) :
    Calls P f args (w.drewN a) fun e w'' => e = .returned v ∧ ∃ m, w'' = w.drewN m := h.mono fun _ _ ⟨he, m, hm⟩ => ⟨he, a + m, by rw [hm, World.drewN_drewN]⟩
theorem capLe {w : World} {S : Nat → Prop} {A : Option Addr} {n c : Nat} {l : List UInt8} (h : BsS w S (.slice A n c) l) : l.length ≤ c := by
  obtain ⟨_, _, hv, h1, _⟩ := h
  injection hv with _ _ hc
  rw [hc]; exact h1
def stN (i : Nat) : Nat := 16 * (i / 16)
def ixN (a : UInt8) (n : Nat) : Nat := a.toNat % n
theorem cellC {w : World} {base g n cap : Nat} {l : List UInt8} (h : w.ownsRow base 5 1 (.slice (some ⟨g, 0, none⟩) (0 + n) cap) (0 + n) ([] ++ l.map U8)) (i : Nat) (hi : i < n) (hn : n = l.length) : w.cell? ⟨g, i, none⟩ = some (U8 (gb l i)) := by
  rw [h.cellAt i (by omega), List.nil_append, mapU8_get l i (by omega)]
set_option maxRecDepth 100000 in
set_option maxHeartbeats 1000000 in
theorem modesChains_law (vk : Value) (k : List UInt8) (nk : k.length ≤ 140737488351232) (vb : Value) (b : List UInt8) (nb : b.length ≤ 140737488351232) (at_ by_ : UInt8) (w : World) (hk : Bs w w.heap.size vk k) (hb : Bs w w.heap.size vb b) :
    Calls Try.prog 7 #[vk, vb, .agg #[U8 at_, U8 by_]] w fun e w' => e = .returned (.bool true) ∧ Below w.heap.size w w' := by
  have Nk := Lib.hid nk; have Nb := Lib.hid nb; clear nk nb
  go_enter Try.func7, Try.ntmps7
  go_wp2
  go_quiet (fail)
  have hB0 := below_drewN ((Below.refl w.heap.size w).alloc (Nat.le_refl _) (.cells #[U8 at_, U8 by_] 35)) nq
  have hk_0 := hk.lift hB0; have hb_0 := hb.lift hB0; have hT_0 := hB0
  clear hk hb hB0
  go_wp2_with fail
  refine (sixX vk k Nk.out _ hk_0).mono ?_
  rintro e w1 ⟨q, rfl, hq, hB⟩
  have hb_1 := hb_0.lift hB
  clear hk_0 hb_0
  have hT_1 := hT_0.trans (hB.mono hT_0.size); clear hT_0 hB
  have hq_1 := hq; clear hq
  go_wp2_with fail
  refine (rpadX vb b Nb.out _ hb_1).mono ?_
  rintro e w2 ⟨p, rfl, hp, hB⟩
  have hq_2 := hq_1.lift hB
  clear hb_1 hq_1
  have hT_2 := hT_1.trans (hB.mono hT_1.size); clear hT_1 hB
  have hp_2 := hp; clear hp
  obtain ⟨Ap, np, cp, rfl⟩ := Bs.form hp_2
  have hnp := Bs.lenEq hp_2
  obtain ⟨M, hM⟩ : ∃ M, M = (b.length + 1 + padN b.length) / 16 := ⟨_, rfl⟩
  have hNM : (padL b).length = 16 * M := by rw [hM]; exact padL_mod b
  obtain ⟨N, hN⟩ : ∃ N, N = (padL b).length := ⟨_, rfl⟩
  have hN1 : 0 < N := by rw [hN, padL_len]; omega
  have hN2 : N ≤ 140737488355328 := by rw [hN]; exact BsS.len hp_2
  rw [← hN] at hnp
  subst hnp
  have hsrcP := (BsS.src hp_2).2
  have h0P := World.ownsRow_nil w2 w2.heap.size 5 1
  have HM := Lib.hid hNM; have HN := Lib.hid hN; have Hsrc := Lib.hid hsrcP; have H0 := Lib.hid h0P
  have hmod : bv at_ % (np : Int) = ((ixN at_ np : Nat) : Int) := rfl
  have Hmod := Lib.hid hmod; clear hmod
  have hbn := bv_nn at_
  have hi0 : ((ixN at_ np : Nat) : Int) < np := by have := Nat.mod_lt at_.toNat hN1; unfold ixN; omega
  clear hM hN hNM hsrcP h0P
  go_upto_region 5 with (at_builtin; go_must ((with_reducible refine wpList_append1 _ rfl (.const (.slice none 0 0)) (.tmp 30) 22 rfl w2.heap.size 5 (.int .u8 0) 1 Try.underlying22 infoU8 rfl (by omega) (.slice none 0 0) 0 [] rfl H0.out Ap np cp ((padL b).map U8) rfl Hsrc.out (by omega) (Nat.le_refl _) ?_); intro v3 w3 hown3 hg3 _ _; have hB3 := below_append H0.out hg3 (Nat.le_refl _) (Nat.le_refl _); obtain ⟨g, cap, rfl, hgb, _, hcap⟩ := own_form16 hown3 (by omega); have c3 := cellC hown3 (ixN at_ np) (by omega) HN.out; have f3 := World.ownsRow.frozenAt hown3 (ixN at_ np); have Hown3 := Lib.hid hown3; clear hown3 hg3))
  rw [Hmod.out]
  clear hbn
  go_wp2_with fail
  have hc_3 := chgOwn Hown3.out HN.out (ixN at_ np) by_ hN2
  have hB := hB3.setCell (p := ⟨g, ixN at_ np, none⟩) hgb (U8 (gb (padL b) (ixN at_ np) ^^^ by_))
  obtain ⟨w4, hw4⟩ : ∃ w4, w4 = w3.setCell ⟨g, ixN at_ np, none⟩ (U8 (gb (padL b) (ixN at_ np) ^^^ by_)) := ⟨_, rfl⟩
  rw [← hw4] at hc_3 hB ⊢
  clear hw4 c3 f3 hB3 Hown3 Hsrc H0 hgb
  have hq_4 := hq_2.lift hB; have hp_4 := hp_2.lift hB
  clear hq_2 hp_2
  have hT_4 := hT_2.trans (hB.mono hT_2.size); clear hT_2 hB
  refine (sealOk q q (.slice Ap np cp) (six k) (six k) (padL b) (argE_six k k b) _ hq_4 hq_4 hp_4).mono ?_
  rintro e w5 ⟨x, rfl, hx, hB⟩
  have hq_5 := hq_4.lift hB; have hp_5 := hp_4.lift hB; have hc_5 := hc_3.lift hB
  clear hq_4 hp_4 hc_3
  have hT_5 := hT_4.trans (hB.mono hT_4.size); clear hT_4 hB
  have hx_5 := hx; clear hx
  go_wp2_with fail
  refine (sealOk q q (.slice (some ⟨g, 0, none⟩) np cap) (six k) (six k) (chg (padL b) (ixN at_ np) by_) (argE_chg k k b _ _) _ hq_5 hq_5 hc_5).mono ?_
  rintro e w6 ⟨y, rfl, hy, hB⟩
  have hq_6 := hq_5.lift hB; have hp_6 := hp_5.lift hB; have hc_6 := hc_5.lift hB; have hx_6 := hx_5.lift hB
  clear hq_5 hp_5 hc_5 hx_5
  have hT_6 := hT_5.trans (hB.mono hT_5.size); clear hT_5 hB
  have hy_6 := hy; clear hy
  go_wp2_with fail
  refine (openOk q q (.slice Ap np cp) (six k) (six k) (padL b) (argE_six k k b) _ hq_6 hq_6 hp_6).mono ?_
  rintro e w7 ⟨z, rfl, hz, hB⟩
  have hq_7 := hq_6.lift hB; have hp_7 := hp_6.lift hB; have hc_7 := hc_6.lift hB; have hx_7 := hx_6.lift hB; have hy_7 := hy_6.lift hB
  clear hq_6 hp_6 hc_6 hx_6 hy_6
  have hT_7 := hT_6.trans (hB.mono hT_6.size); clear hT_6 hB
  have hz_7 := hz; clear hz
  go_wp2_with fail
  refine (openOk q q (.slice (some ⟨g, 0, none⟩) np cap) (six k) (six k) (chg (padL b) (ixN at_ np) by_) (argE_chg k k b _ _) _ hq_7 hq_7 hc_7).mono ?_
  rintro e w8 ⟨u, rfl, hu, hB⟩
  have hx_8 := hx_7.lift hB; have hy_8 := hy_7.lift hB; have hz_8 := hz_7.lift hB
  clear hq_7 hp_7 hc_7 hx_7 hy_7 hz_7
  have hT_8 := hT_7.trans (hB.mono hT_7.size); clear hT_7 hB
  have hu_8 := hu; clear hu
  go_wp2_with fail
  refine (awake_any _).mono ?_
  rintro e w9 ⟨rfl, hB⟩
  have hx_9 := hx_8.lift hB; have hy_9 := hy_8.lift hB; have hz_9 := hz_8.lift hB; have hu_9 := hu_8.lift hB
  clear hx_8 hy_8 hz_8 hu_8
  have hT_9 := hT_8.trans (hB.mono hT_8.size); clear hT_8 hB
  obtain ⟨lx, ly, lz, lu⟩ := lens4 (six k) (six k) (padL b) (ixN at_ np) by_ M HM.out
  rw [← HM.out, ← HN.out] at lx ly lz lu
  obtain ⟨Ax, nx, cx, rfl⟩ := Bs.form hx_9
  have hxn := Bs.lenEq hx_9
  rw [lx] at hxn; subst hxn
  obtain ⟨Ay, ny, cy, rfl⟩ := Bs.form hy_9
  have hyn := Bs.lenEq hy_9
  rw [ly] at hyn; subst hyn
  obtain ⟨Az, nz, cz, rfl⟩ := Bs.form hz_9
  have hzn := Bs.lenEq hz_9
  rw [lz] at hzn; subst hzn
  obtain ⟨Au, nu, cu, rfl⟩ := Bs.form hu_9
  have hun := Bs.lenEq hu_9
  rw [lu] at hun; subst hun
  have hi2 : ixN at_ nu < nu := by have := hi0; omega
  have hst1 : stN (ixN at_ nu) ≤ nu := by unfold stN; omega
  have hcx := capLe hx_9; rw [lx] at hcx
  have hcy := capLe hy_9; rw [ly] at hcy
  have hcz := capLe hz_9; rw [lz] at hcz
  have hcu := capLe hu_9; rw [lu] at hcu
  have e1 := Lib.hid (seal_change (six k) (six k) (padL b) (chg (padL b) (ixN at_ nu) by_) M HM.out (by rw [chg_len, HM.out]) (ixN at_ nu / 16) (by have := HN.out; rw [HM.out] at this; omega) (fun j hj => chg_blk _ _ _ _ (by omega)))
  have e2 := Lib.hid (open_change (six k) (six k) (padL b) (chg (padL b) (ixN at_ nu) by_) M HM.out (by rw [chg_len, HM.out]) (ixN at_ nu / 16) (by have := HN.out; rw [HM.out] at this; omega) (fun j hj => chg_blk _ _ _ _ (by omega)))
  have Tx := Lib.hid (Bs.cutTo hx_9 (stN (ixN at_ nu)) (by rw [lx]; exact hst1))
  have Fx := Lib.hid hx_9
  have Lhx := Lib.hid lx
  have Ty := Lib.hid (Bs.cutTo hy_9 (stN (ixN at_ nu)) (by rw [ly]; exact hst1))
  have Fy := Lib.hid hy_9
  have Lhy := Lib.hid ly
  have Tz := Lib.hid (Bs.cutTo hz_9 (stN (ixN at_ nu)) (by rw [lz]; exact hst1))
  have Fz := Lib.hid hz_9
  have Lhz := Lib.hid lz
  have Tu := Lib.hid (Bs.cutTo hu_9 (stN (ixN at_ nu)) (by rw [lu]; exact hst1))
  have Fu := Lib.hid hu_9
  have Lhu := Lib.hid lu
  clear hx_9 hy_9 hz_9 hu_9 lx ly lz lu
  have hs1 : ((stN (ixN at_ nu) : Nat) : Int) ≤ nu := by omega
  have hsx : ((stN (ixN at_ nu) : Nat) : Int) ≤ cx := by omega
  have hsy : ((stN (ixN at_ nu) : Nat) : Int) ≤ cy := by omega
  have hsz : ((stN (ixN at_ nu) : Nat) : Int) ≤ cz := by omega
  have hsu : ((stN (ixN at_ nu) : Nat) : Int) ≤ cu := by omega
  go_upto_region 13 with (fail)
  rw [show ((ixN at_ nu : Nat) : Int) - ((ixN at_ nu : Nat) : Int) % 16 = ((stN (ixN at_ nu) : Nat) : Int) from by unfold stN; omega]
  go_quiet ((first | (go_at_call 16; exact quietL (sameT _ _ _ _ e1.out _ Tx.out Ty.out)) | (go_at_call 16; exact quietL (sameT _ _ _ _ e2.out _ Tz.out Tu.out))))
  by_cases hgt : nu < stN (ixN at_ nu) + 32
  · have hd : decide ((nu : Int) < (stN (ixN at_ nu) : Int) + 32) = true := by simp; omega
    go_wp2
    go_quiet (fail)
    go_wp2
    go_ret
    exact ⟨rfl, below_drewN (below_drewN hT_9 _) _⟩
  · have hd : decide ((nu : Int) < (stN (ixN at_ nu) : Int) + 32) = false := by simp; omega
    have hge : ((stN (ixN at_ nu) : Nat) : Int) + 32 ≤ nu := by omega
    have e3 := Lib.hid (open_behind (six k) (six k) (padL b) (chg (padL b) (ixN at_ nu) by_) M HM.out (by rw [chg_len, HM.out]) (ixN at_ nu / 16) (by have := HN.out; rw [HM.out] at this; unfold stN at hge; omega) (fun j hj => chg_blk _ _ _ _ hj))
    have hk32 : 16 * (ixN at_ nu / 16 + 2) = stN (ixN at_ nu) + 32 := by unfold stN; omega
    have e4 := e3.out
    rw [hk32] at e4
    have E4 := Lib.hid e4
    clear e3 e4 hk32
    obtain ⟨zb, zo, rfl⟩ := addrOf Fz.out (by rw [Lhz.out]; omega)
    obtain ⟨ub, uo, rfl⟩ := addrOf Fu.out (by rw [Lhu.out]; omega)
    by_cases hz : cz = stN (ixN at_ nu) + 32
    · by_cases hu : cu = stN (ixN at_ nu) + 32
      · have Dz := Lib.hid (fun n2 c2 h1 h2 => cutEnd Fz.out (stN (ixN at_ nu) + 32) (by rw [Lhz.out]; omega) n2 c2 h1 h2)
        have Du := Lib.hid (fun n2 c2 h1 h2 => cutEnd Fu.out (stN (ixN at_ nu) + 32) (by rw [Lhu.out]; omega) n2 c2 h1 h2)
        have hz1 : (cz : Int) = (stN (ixN at_ nu) : Int) + 32 := by omega
        subst hz; clear hz1
        subst hu
        go_wp2
        have s0 : Value.int .i64 (IntKind.i64.wrap ((stN (ixN at_ nu) : Int) + 32)) = .int .i64 ((stN (ixN at_ nu) : Int) + 32) := by rw [IntWalk.i64_in _ (by omega)]
        have s1 : ((stN (ixN at_ nu) : Int) + 32).toNat = stN (ixN at_ nu) + 32 := by omega
        have s2 : (0 : Int) ≤ (stN (ixN at_ nu) : Int) + 32 := by omega
        go_quiet ((go_at_call 16; first | exact quietAdd (sameT _ _ _ _ E4.out _ (Dz.out _ _ (by omega) (by omega)) (Du.out _ _ (by omega) (by omega))) | exact quietL (sameT _ _ _ _ E4.out _ (Dz.out _ _ (by omega) (by omega)) (Du.out _ _ (by omega) (by omega)))))
        go_wp2
        go_ret
        exact ⟨rfl, below_drewN (below_drewN hT_9 _) _⟩
      · have Dz := Lib.hid (fun n2 c2 h1 h2 => cutEnd Fz.out (stN (ixN at_ nu) + 32) (by rw [Lhz.out]; omega) n2 c2 h1 h2)
        have Du := Lib.hid (fun n2 c2 h1 h2 => cutOn2 Fu.out (stN (ixN at_ nu) + 32) (by rw [Lhu.out]; omega) n2 c2 h1 h2)
        have hz1 : (cz : Int) = (stN (ixN at_ nu) : Int) + 32 := by omega
        subst hz; clear hz1
        go_wp2
        have s0 : Value.int .i64 (IntKind.i64.wrap ((stN (ixN at_ nu) : Int) + 32)) = .int .i64 ((stN (ixN at_ nu) : Int) + 32) := by rw [IntWalk.i64_in _ (by omega)]
        have s1 : ((stN (ixN at_ nu) : Int) + 32).toNat = stN (ixN at_ nu) + 32 := by omega
        have s2 : (0 : Int) ≤ (stN (ixN at_ nu) : Int) + 32 := by omega
        go_quiet ((go_at_call 16; first | exact quietAdd (sameT _ _ _ _ E4.out _ (Dz.out _ _ (by omega) (by omega)) (Du.out _ _ (by omega) (by omega))) | exact quietL (sameT _ _ _ _ E4.out _ (Dz.out _ _ (by omega) (by omega)) (Du.out _ _ (by omega) (by omega)))))
        go_wp2
        go_ret
        exact ⟨rfl, below_drewN (below_drewN hT_9 _) _⟩
    · by_cases hu : cu = stN (ixN at_ nu) + 32
      · have Dz := Lib.hid (fun n2 c2 h1 h2 => cutOn2 Fz.out (stN (ixN at_ nu) + 32) (by rw [Lhz.out]; omega) n2 c2 h1 h2)
        have Du := Lib.hid (fun n2 c2 h1 h2 => cutEnd Fu.out (stN (ixN at_ nu) + 32) (by rw [Lhu.out]; omega) n2 c2 h1 h2)
        subst hu
        go_wp2
        have s0 : Value.int .i64 (IntKind.i64.wrap ((stN (ixN at_ nu) : Int) + 32)) = .int .i64 ((stN (ixN at_ nu) : Int) + 32) := by rw [IntWalk.i64_in _ (by omega)]
        have s1 : ((stN (ixN at_ nu) : Int) + 32).toNat = stN (ixN at_ nu) + 32 := by omega
        have s2 : (0 : Int) ≤ (stN (ixN at_ nu) : Int) + 32 := by omega
        go_quiet ((go_at_call 16; first | exact quietAdd (sameT _ _ _ _ E4.out _ (Dz.out _ _ (by omega) (by omega)) (Du.out _ _ (by omega) (by omega))) | exact quietL (sameT _ _ _ _ E4.out _ (Dz.out _ _ (by omega) (by omega)) (Du.out _ _ (by omega) (by omega)))))
        go_wp2
        go_ret
        exact ⟨rfl, below_drewN (below_drewN hT_9 _) _⟩
      · have Dz := Lib.hid (fun n2 c2 h1 h2 => cutOn2 Fz.out (stN (ixN at_ nu) + 32) (by rw [Lhz.out]; omega) n2 c2 h1 h2)
        have Du := Lib.hid (fun n2 c2 h1 h2 => cutOn2 Fu.out (stN (ixN at_ nu) + 32) (by rw [Lhu.out]; omega) n2 c2 h1 h2)
        go_wp2
        have s0 : Value.int .i64 (IntKind.i64.wrap ((stN (ixN at_ nu) : Int) + 32)) = .int .i64 ((stN (ixN at_ nu) : Int) + 32) := by rw [IntWalk.i64_in _ (by omega)]
        have s1 : ((stN (ixN at_ nu) : Int) + 32).toNat = stN (ixN at_ nu) + 32 := by omega
        have s2 : (0 : Int) ≤ (stN (ixN at_ nu) : Int) + 32 := by omega
        go_quiet ((go_at_call 16; first | exact quietAdd (sameT _ _ _ _ E4.out _ (Dz.out _ _ (by omega) (by omega)) (Du.out _ _ (by omega) (by omega))) | exact quietL (sameT _ _ _ _ E4.out _ (Dz.out _ _ (by omega) (by omega)) (Du.out _ _ (by omega) (by omega)))))
        go_wp2
        go_ret
        exact ⟨rfl, below_drewN (below_drewN hT_9 _) _⟩
end Go.Proofs.Ytmpcjaoemfnjcaa
