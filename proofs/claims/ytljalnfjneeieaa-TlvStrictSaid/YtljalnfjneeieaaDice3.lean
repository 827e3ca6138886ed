/- made.Dice: Nodes. -/
import Derived.Test.YtljalnfjneeieaaDice2
import Derived.Test.YtljalnfjneeieaaTlvE
namespace Go.Proofs.Ytljalnfjneeieaa
open Go.RowKit Go.Deep

/-- Objects as Nodes makes them, at most d deep. -/
def Ns.made : Ns → Nat → Prop
  | .nil, _ => True
  | .cons t v k r, d => tagV t = true ∧ ((tagC t = true ∧ v = [] ∧ 1 < d ∧ k.made (d - 1) ∧ k.len ≤ 3) ∨ (tagC t = false ∧ k = .nil ∧ v.length ≤ 269)) ∧ r.made d
theorem Ns.made_snoc {t : Int} {v : List UInt8} {k : Ns} {d : Nat} (h : (Ns.cons t v k .nil).made d) : ∀ l : Ns, l.made d → (l.app (.cons t v k .nil)).made d := by
  intro l
  induction l with
  | nil => intro _; exact h
  | cons t' v' k' r' _ ih => intro ⟨h1, h2, h3⟩; exact ⟨h1, h2, ih h3⟩
theorem madeCells_u8 (n : Nat) : (madeCells (Value.int .u8 0).cells (n * 1)).toList = (List.replicate n (0 : UInt8)).map U8 := by
  rw [List.map_replicate]
  apply List.ext_getElem
  · simp [madeCells]
  · intro i h1 h2
    simp [madeCells, Value.cells, Nat.mod_one]
    rfl
theorem wpList_make_z {ops : Array Oper} {rest : List Oper} {o : Oper} {a : Act} {w : World} {Q : Exit → Act → World → Prop} (hgd : o.guard = none) (x : Operand) (ho : o.op = .makeSlice 25 x x)
    (L : Int) (n : Nat) (hx : a.eval x = .int .i64 L) (hL : L = n) (hn : n ≤ 1000000)
    (h : ∀ w', BsS w' (New w w') (.slice (some ⟨w.heap.size, 0, none⟩) n n) (List.replicate n 0) → Below w.heap.size w w' → wpList Try.prog ops Q rest (a.put o.dst (.slice (some ⟨w.heap.size, 0, none⟩) n n)) w') : wpList Try.prog ops Q (o :: rest) a w := by
  obtain ⟨i, hinfo, hzz⟩ := Option.map_eq_some_iff.1 infoU8
  simp only [Prod.mk.injEq] at hzz
  obtain ⟨hz, hsize, hbb⟩ := hzz
  refine wpList_make_full w hgd x x 25 ho w.heap.size 5 i _ 1 Try.underlying25 hinfo hz hsize .i64 .i64 L L n hx hx hL hL (by rw [hbb]; omega) (by unfold maxLen; omega) (Nat.le_refl _) fun w' h1 h2 => h w' ?_ ⟨h2.os, h2.tape, h2.output, h2.size, fun k hk => h2.block k hk (by simp)⟩
  rw [madeCells_u8] at h1
  exact (BsS.of_own h1 (by simp; omega)).keep fun b hs _ => ⟨rfl, hs⟩
/-- Inside Nodes: a row of objects of its own, and the dice, older than it. -/
def NRow (B : Nat) (w wi : World) (p n : Nat) (o : Value) (L : Ns) : Prop := OwnN wi w.heap.size o L ∧ DiePost B w p n wi ∧ B ≤ w.heap.size
theorem NRow.start {B : Nat} {w : World} {p n : Nat} (h : Die B w p n) : NRow B w w p n (.slice none 0 0) .nil := ⟨OwnN.nil _ _, ⟨h, World.grownBy.refl _ _⟩, h.le⟩
theorem NRow.call {B : Nat} {w wi wj : World} {p n : Nat} {o : Value} {L : Ns} (h : NRow B w wi p n o L) (hd : DiePost B wi p n wj) : NRow B w wj p n o L :=
  ⟨h.1.kept hd.2 (fun b e => by injection e with e; have := hd.1.lt; have := h.2.2; omega), h.2.1.trans hd, h.2.2⟩
theorem NRow.below {B : Nat} {w wi wj : World} {p n : Nat} {o : Value} {L : Ns} (h : NRow B w wi p n o L) (hb : Below wi.heap.size wi wj) : NRow B w wj p n o L :=
  h.call ⟨h.2.1.1.below (hb.mono h.2.1.1.le), only_of_below hb _⟩
theorem NRow.grew {B : Nat} {w wi wj : World} {p n : Nat} {o o' : Value} {L L' : Ns} (h : NRow B w wi p n o L) (g : GrewN wi wj w.heap.size o o' L') : NRow B w wj p n o' L' := by
  obtain ⟨h1, ⟨h2, h3⟩, h4⟩ := h
  obtain ⟨g1, g2, g3⟩ := g
  exact ⟨g1, ⟨h2.below (g2.mono h4), only_row h3 g3 fun b e => (h1.lt e).1⟩, h4⟩
theorem NRow.own {B : Nat} {w wi : World} {p n : Nat} {o : Value} {L : Ns} (h : NRow B w wi p n o L) : OwnN wi w.heap.size o L := h.1
theorem NRow.die {B : Nat} {w wi : World} {p n : Nat} {o : Value} {L : Ns} (h : NRow B w wi p n o L) : Die B wi p n := h.2.1.1
theorem NRow.size {B : Nat} {w wi : World} {p n : Nat} {o : Value} {L : Ns} (h : NRow B w wi p n o L) : w.heap.size ≤ wi.heap.size := h.2.1.2.size
theorem NRow.offB {B : Nat} {w wi wj : World} {p n : Nat} {o x : Value} {L : Ns} {l : List UInt8} (h : NRow B w wi p n o L) (hx : BsS wj (New wi wj) x l) : BsS wj (OffN w.heap.size wj o) x l :=
  hx.keep fun b hs hl => ⟨rfl, hl, fun e => by have := (h.1.lt e).2; have := hs.1; omega, by have := hs.1; have := h.size; omega⟩
theorem NRow.offN {B : Nat} {w wi wj : World} {p n : Nat} {o x : Value} {L l : Ns} (h : NRow B w wi p n o L) (hx : NsS wj (New wi wj) x l) : NsS wj (OffN w.heap.size wj o) x l :=
  hx.keep fun b hs hl => ⟨rfl, hl, fun e => by have := (h.1.lt e).2; have := hs.1; omega, by have := hs.1; have := h.size; omega⟩
/-- Bytes that were made stand through a call that turns the dice alone. -/
theorem new_call {B : Nat} {wi wj wk : World} {p n : Nat} {x : Value} {l : List UInt8} (hx : BsS wj (New wi wj) x l) (hB : B ≤ wi.heap.size) (hd : DiePost B wj p n wk) : BsS wk (New wi wk) x l :=
  hx.keep fun b hs hl => ⟨hd.2.block b hl (by intro e; injection e with e; have := hd.1.lt; have := hs.1; omega), hs.1, Nat.lt_of_lt_of_le hl hd.2.size⟩
set_option maxRecDepth 100000 in
set_option maxHeartbeats 2000000 in
theorem dnodes_any (d : Nat) : ∀ (B p n : Nat) (w : World), Die B w p n → 1 ≤ d → d ≤ 10 →
    Calls Try.prog 20 #[.pointer (some ⟨p, 0, none⟩), .int .i64 d] w fun e w' => ∃ v L, e = .returned v ∧ NsS w' (New w w') v L ∧ L.made d ∧ L.len ≤ 3 ∧ DiePost B w p n w' := by
  induction d with
  | zero => intro B p n w h h1; omega
  | succ d ih =>
    intro B p n w h h1 h2
    have H0 := Lib.hid (NRow.start h)
    clear h
    go_enter Try.func20, Try.ntmps20
    go_wp2_with (go_at_call 39; refine (next_any B p n _ _ H0.out.die (by decide) (by decide)).mono ?_; rintro e w1 ⟨z0, rfl, hz0, hd⟩; have H1 := Lib.hid (H0.out.call hd); clear hd)
    go_loopg [5, 6] z0 (fun q o i wr => ∃ L : Ns, L.len + q = z0 ∧ i = .int .i64 q ∧ L.made (d + 1) ∧ NRow B w wr p n o L)
    case atStart => exact ⟨.nil, by simp [Ns.len], rfl, trivial, H1.out⟩
    case round =>
      obtain ⟨L, hl, rfl, hm, hR⟩ := hrel
      obtain ⟨oa, oc, rfl⟩ := hR.own.form
      have HR := Lib.hid hR; have HM := Lib.hid hm
      clear hR hm
      by_cases hq : gk = 0
      · subst hq
        go_wp2_with fail
        go_ret
        exact ⟨_, L, rfl, (HR.out.own.nss (by omega)).keep fun b hs _ => ⟨rfl, hs⟩, HM.out, by omega, HR.out.2.1⟩
      · have hq1 : 0 < gk := by omega
        clear hq
        by_cases hd1 : d = 0
        · subst hd1
          clear ih
          go_wp2_with (go_at_call 21; refine (one_any B p n _ _ HR.out.die (by decide) (by decide)).mono ?_; rintro e w3 ⟨b3, rfl, hd⟩; have H3 := Lib.hid (HR.out.call hd); clear hd; cases b3)
          · skip
            go_wp2_with (first
              | (at_builtin; (with_reducible refine wpList_node rfl (.tmp 43) (.tmp 49) rfl w.heap.size (.slice oa L.len oc) L rfl H5.out.own t l .nil (.slice xa l.length xc) (.slice none 0 0) _ w5.heap.size rfl rfl hi HV.out (NsS.nil0 _ _) (by omega) H5.out.size ?_); intro o6 w6 hgr; have H6 := Lib.hid (H5.out.grew hgr); clear hgr)
              | (go_at_call 28; refine (dtag_any B p n false _ H3.out.die).mono ?_; rintro e w4 ⟨t, rfl, ht, hc, hd⟩; have HT := Lib.hid (And.intro ht hc); have hi := tagV_in ht; have H4 := Lib.hid (H3.out.call hd); clear hd ht hc)
              | (go_at_call 40; refine (dbytes_any B p n _ _ H4.out.die (by decide) (by decide)).mono ?_; rintro e w5 ⟨xv, l, rfl, hx, hxl, hd⟩; have H5 := Lib.hid (H4.out.call hd); obtain ⟨xa, xc, rfl⟩ := hx.form2; have HV := Lib.hid (H4.out.offB hx); clear hd hx))
            go_roundg (gk - 1)
            case measure => omega
            case rel =>
              refine ⟨_, by rw [Ns.len_snoc]; omega, by go_num, Ns.made_snoc ?_ L HM.out, H6.out⟩
              exact ⟨HT.out.1, .inr ⟨HT.out.2, rfl, by omega⟩, trivial⟩
          · skip
            go_wp2_with (first
              | (at_builtin; (with_reducible refine wpList_node rfl (.tmp 36) (.tmp 41) rfl w.heap.size (.slice oa L.len oc) L rfl H6.out.own t (List.replicate (120 + z1) 0) .nil (.slice (some ⟨w4.heap.size, 0, none⟩) (120 + z1) (120 + z1)) (.slice none 0 0) _ w6.heap.size rfl rfl hi HV.out (NsS.nil0 _ _) (by omega) H6.out.size ?_); intro o7 w7 hgr; have H7 := Lib.hid (H6.out.grew hgr); clear hgr)
              | (go_at_call 39; refine (next_any B p n _ _ H3.out.die (by decide) (by decide)).mono ?_; rintro e w4 ⟨z1, rfl, hz1, hd⟩; have H4 := Lib.hid (H3.out.call hd); clear hd)
              | (at_make; (with_reducible refine wpList_make_z rfl (.tmp 34) rfl (120 + (z1 : Int)) (120 + z1) rfl (by omega) (by omega) ?_); intro w5 hx hb; have H5 := Lib.hid (H4.out.below hb); have HX := Lib.hid hx; clear hx hb)
              | (go_at_call 28; refine (dtag_any B p n false _ H5.out.die).mono ?_; rintro e w6 ⟨t, rfl, ht, hc, hd⟩; have HT := Lib.hid (And.intro ht hc); have hi := tagV_in ht; have H6 := Lib.hid (H5.out.call hd); have HV := Lib.hid (H4.out.offB (new_call HX.out H4.out.die.le hd)); clear hd ht hc))
            go_roundg (gk - 1)
            case measure => omega
            case rel =>
              refine ⟨_, by rw [Ns.len_snoc]; omega, by go_num, Ns.made_snoc ?_ L HM.out, H7.out⟩
              exact ⟨HT.out.1, .inr ⟨HT.out.2, rfl, by simp; omega⟩, trivial⟩
        · have hd2 : 1 < d + 1 := by omega
          clear hd1
          go_wp2_with (go_at_call 21; refine (one_any B p n _ _ HR.out.die (by decide) (by decide)).mono ?_; rintro e w2 ⟨b, rfl, hd⟩; have H2 := Lib.hid (HR.out.call hd); clear hd; cases b)
          · clear ih
            go_wp2_with (go_at_call 21; refine (one_any B p n _ _ H2.out.die (by decide) (by decide)).mono ?_; rintro e w3 ⟨b3, rfl, hd⟩; have H3 := Lib.hid (H2.out.call hd); clear hd; cases b3)
            · skip
              go_wp2_with (first
                | (at_builtin; (with_reducible refine wpList_node rfl (.tmp 43) (.tmp 49) rfl w.heap.size (.slice oa L.len oc) L rfl H5.out.own t l .nil (.slice xa l.length xc) (.slice none 0 0) _ w5.heap.size rfl rfl hi HV.out (NsS.nil0 _ _) (by omega) H5.out.size ?_); intro o6 w6 hgr; have H6 := Lib.hid (H5.out.grew hgr); clear hgr)
                | (go_at_call 28; refine (dtag_any B p n false _ H3.out.die).mono ?_; rintro e w4 ⟨t, rfl, ht, hc, hd⟩; have HT := Lib.hid (And.intro ht hc); have hi := tagV_in ht; have H4 := Lib.hid (H3.out.call hd); clear hd ht hc)
                | (go_at_call 40; refine (dbytes_any B p n _ _ H4.out.die (by decide) (by decide)).mono ?_; rintro e w5 ⟨xv, l, rfl, hx, hxl, hd⟩; have H5 := Lib.hid (H4.out.call hd); obtain ⟨xa, xc, rfl⟩ := hx.form2; have HV := Lib.hid (H4.out.offB hx); clear hd hx))
              go_roundg (gk - 1)
              case measure => omega
              case rel =>
                refine ⟨_, by rw [Ns.len_snoc]; omega, by go_num, Ns.made_snoc ?_ L HM.out, H6.out⟩
                exact ⟨HT.out.1, .inr ⟨HT.out.2, rfl, by omega⟩, trivial⟩
            · skip
              go_wp2_with (first
                | (at_builtin; (with_reducible refine wpList_node rfl (.tmp 36) (.tmp 41) rfl w.heap.size (.slice oa L.len oc) L rfl H6.out.own t (List.replicate (120 + z1) 0) .nil (.slice (some ⟨w4.heap.size, 0, none⟩) (120 + z1) (120 + z1)) (.slice none 0 0) _ w6.heap.size rfl rfl hi HV.out (NsS.nil0 _ _) (by omega) H6.out.size ?_); intro o7 w7 hgr; have H7 := Lib.hid (H6.out.grew hgr); clear hgr)
                | (go_at_call 39; refine (next_any B p n _ _ H3.out.die (by decide) (by decide)).mono ?_; rintro e w4 ⟨z1, rfl, hz1, hd⟩; have H4 := Lib.hid (H3.out.call hd); clear hd)
                | (at_make; (with_reducible refine wpList_make_z rfl (.tmp 34) rfl (120 + (z1 : Int)) (120 + z1) rfl (by omega) (by omega) ?_); intro w5 hx hb; have H5 := Lib.hid (H4.out.below hb); have HX := Lib.hid hx; clear hx hb)
                | (go_at_call 28; refine (dtag_any B p n false _ H5.out.die).mono ?_; rintro e w6 ⟨t, rfl, ht, hc, hd⟩; have HT := Lib.hid (And.intro ht hc); have hi := tagV_in ht; have H6 := Lib.hid (H5.out.call hd); have HV := Lib.hid (H4.out.offB (new_call HX.out H4.out.die.le hd)); clear hd ht hc))
              go_roundg (gk - 1)
              case measure => omega
              case rel =>
                refine ⟨_, by rw [Ns.len_snoc]; omega, by go_num, Ns.made_snoc ?_ L HM.out, H7.out⟩
                exact ⟨HT.out.1, .inr ⟨HT.out.2, rfl, by simp; omega⟩, trivial⟩
          · skip
            have HI := fun B p n w h => Lib.hid (ih B p n w h (by omega) (by omega))
            clear ih
            have hdd : ((d + 1 : Nat) : Int) - 1 = d := by omega
            go_wp2_with (first
              | (at_builtin; (with_reducible refine wpList_node rfl (.tmp 20) (.tmp 28) rfl w.heap.size (.slice oa L.len oc) L rfl H4.out.own t [] K (.slice none 0 0) (.slice ka K.len kc) _ w4.heap.size rfl rfl hi (BsS.nil0 _ _) HK.out (by omega) H4.out.size ?_); intro o5 w5 hgr; have H5 := Lib.hid (H4.out.grew hgr); clear hgr)
              | (go_at_call 28; refine (dtag_any B p n true _ H2.out.die).mono ?_; rintro e w3 ⟨t, rfl, ht, hc, hd⟩; have HT := Lib.hid (And.intro ht hc); have hi := tagV_in ht; have H3 := Lib.hid (H2.out.call hd); clear hd ht hc)
              | (go_at_call 20; refine (HI B p n _ H3.out.die).out.mono ?_; rintro e w4 ⟨kv, K, rfl, hk, hkm, hkl, hd⟩; have H4 := Lib.hid (H3.out.call hd); obtain ⟨ka, kc, rfl⟩ := hk.form2; have HK := Lib.hid (H3.out.offN hk); have HKM := Lib.hid hkm; clear hd hk hkm))
            go_roundg (gk - 1)
            case measure => omega
            case rel =>
              refine ⟨_, by rw [Ns.len_snoc]; omega, by go_num, Ns.made_snoc ?_ L HM.out, H5.out⟩
              exact ⟨HT.out.1, .inl ⟨HT.out.2, rfl, by omega, HKM.out, hkl⟩, trivial⟩
end Go.Proofs.Ytljalnfjneeieaa
