/- Layer 2: TlvCuts. -/
import Derived.Test.YtljalnfjneeieaaLaw2a
import Derived.Test.YtljalnfjneeieaaRows2
import Derived.Test.YtljalnfjneeieaaTlvO
import Derived.Test.YtljalnfjneeieaaDice2
import Derived.Test.YtljalnfjneeieaaTlvE
import Derived.Test.YtljalnfjneeieaaCodes
import Derived.Test.YtljalnfjneeieaaTlvG
/- made.Dice: Nodes. -/
namespace Go.Proofs.Ytljalnfjneeieaa
open Go.RowKit Go.Deep

/-- Objects as Nodes makes them, at most d deep. -/
def Ns.made : Ns → Nat → Prop
  | .nil, _ => True
  | .cons t v k r, d => tagV t = true ∧ ((tagC t = true ∧ v = [] ∧ 1 < d ∧ k.made (d - 1) ∧ k.len ≤ 3) ∨ (tagC t = false ∧ k = .nil ∧ v.length ≤ 269)) ∧ r.made d
theorem Ns.made_snoc {t : Int} {v : List UInt8} {k : Ns} {d : Nat} (h : (Ns.cons t v k .nil).made d) : ∀ l : Ns, l.made d → (l.app (.cons t v k .nil)).made d := by
  intro l
  induction l with
  | nil => intro _; exact h
  | cons t' v' k' r' _ ih => intro ⟨h1, h2, h3⟩; exact ⟨h1, h2, ih h3⟩
theorem madeCells_u8 (n : Nat) : (madeCells (Value.int .u8 0).cells (n * 1)).toList = (List.replicate n (0 : UInt8)).map U8 := by
  rw [List.map_replicate]
  apply List.ext_getElem
  · simp [madeCells]
  · intro i h1 h2
    simp [madeCells, Value.cells, Nat.mod_one]
    rfl
theorem wpList_make_z {ops : Array Oper} {rest : List Oper} {o : Oper} {a : Act} {w : World} {Q : Exit → Act → World → Prop} (hgd : o.guard = none) (x : Operand) (ho : o.op = .makeSlice 25 x x)
    (L : Int) (n : Nat) (hx : a.eval x = .int .i64 L) (hL : L = n) (hn : n ≤ 1000000)
    (h : ∀ w', BsS w' (New w w') (.slice (some ⟨w.heap.size, 0, none⟩) n n) (List.replicate n 0) → Below w.heap.size w w' → wpList Try.prog ops Q rest (a.put o.dst (.slice (some ⟨w.heap.size, 0, none⟩) n n)) w') : wpList Try.prog ops Q (o :: rest) a w := by
  obtain ⟨i, hinfo, hzz⟩ := Option.map_eq_some_iff.1 infoU8
  simp only [Prod.mk.injEq] at hzz
  obtain ⟨hz, hsize, hbb⟩ := hzz
  refine wpList_make_full w hgd x x 25 ho w.heap.size 5 i _ 1 Try.underlying25 hinfo hz hsize .i64 .i64 L L n hx hx hL hL (by rw [hbb]; omega) (by unfold maxLen; omega) (Nat.le_refl _) fun w' h1 h2 => h w' ?_ ⟨h2.os, h2.tape, h2.output, h2.size, fun k hk => h2.block k hk (by simp)⟩
  rw [madeCells_u8] at h1
  exact (BsS.of_own h1 (by simp; omega)).keep fun b hs _ => ⟨rfl, hs⟩
/-- Inside Nodes: a row of objects of its own, and the dice, older than it. -/
def NRow (B : Nat) (w wi : World) (p n : Nat) (o : Value) (L : Ns) : Prop := OwnN wi w.heap.size o L ∧ DiePost B w p n wi ∧ B ≤ w.heap.size
theorem NRow.start {B : Nat} {w : World} {p n : Nat} (h : Die B w p n) : NRow B w w p n (.slice none 0 0) .nil := ⟨OwnN.nil _ _, ⟨h, World.grownBy.refl _ _⟩, h.le⟩
theorem NRow.call {B : Nat} {w wi wj : World} {p n : Nat} {o : Value} {L : Ns} (h : NRow B w wi p n o L) (hd : DiePost B wi p n wj) : NRow B w wj p n o L :=
  ⟨h.1.kept hd.2 (fun b e => by injection e with e; have := hd.1.lt; have := h.2.2; omega), h.2.1.trans hd, h.2.2⟩
theorem NRow.below {B : Nat} {w wi wj : World} {p n : Nat} {o : Value} {L : Ns} (h : NRow B w wi p n o L) (hb : Below wi.heap.size wi wj) : NRow B w wj p n o L :=
  h.call ⟨h.2.1.1.below (hb.mono h.2.1.1.le), only_of_below hb _⟩
theorem NRow.grew {B : Nat} {w wi wj : World} {p n : Nat} {o o' : Value} {L L' : Ns} (h : NRow B w wi p n o L) (g : GrewN wi wj w.heap.size o o' L') : NRow B w wj p n o' L' := by
  obtain ⟨h1, ⟨h2, h3⟩, h4⟩ := h
  obtain ⟨g1, g2, g3⟩ := g
  exact ⟨g1, ⟨h2.below (g2.mono h4), only_row h3 g3 fun b e => (h1.lt e).1⟩, h4⟩
theorem NRow.own {B : Nat} {w wi : World} {p n : Nat} {o : Value} {L : Ns} (h : NRow B w wi p n o L) : OwnN wi w.heap.size o L := h.1
theorem NRow.die {B : Nat} {w wi : World} {p n : Nat} {o : Value} {L : Ns} (h : NRow B w wi p n o L) : Die B wi p n := h.2.1.1
theorem NRow.size {B : Nat} {w wi : World} {p n : Nat} {o : Value} {L : Ns} (h : NRow B w wi p n o L) : w.heap.size ≤ wi.heap.size := h.2.1.2.size
theorem NRow.offB {B : Nat} {w wi wj : World} {p n : Nat} {o x : Value} {L : Ns} {l : List UInt8} (h : NRow B w wi p n o L) (hx : BsS wj (New wi wj) x l) : BsS wj (OffN w.heap.size wj o) x l :=
  hx.keep fun b hs hl => ⟨rfl, hl, fun e => by have := (h.1.lt e).2; have := hs.1; omega, by have := hs.1; have := h.size; omega⟩
theorem NRow.offN {B : Nat} {w wi wj : World} {p n : Nat} {o x : Value} {L l : Ns} (h : NRow B w wi p n o L) (hx : NsS wj (New wi wj) x l) : NsS wj (OffN w.heap.size wj o) x l :=
  hx.keep fun b hs hl => ⟨rfl, hl, fun e => by have := (h.1.lt e).2; have := hs.1; omega, by have := hs.1; have := h.size; omega⟩
/-- Bytes that were made stand through a call that turns the dice alone. -/
theorem new_call {B : Nat} {wi wj wk : World} {p n : Nat} {x : Value} {l : List UInt8} (hx : BsS wj (New wi wj) x l) (hB : B ≤ wi.heap.size) (hd : DiePost B wj p n wk) : BsS wk (New wi wk) x l :=
  hx.keep fun b hs hl => ⟨hd.2.block b hl (by intro e; injection e with e; have := hd.1.lt; have := hs.1; omega), hs.1, Nat.lt_of_lt_of_le hl hd.2.size⟩
set_option maxRecDepth 100000 in
set_option maxHeartbeats 2000000 in
theorem dnodes_any (d : Nat) : ∀ (B p n : Nat) (w : World), Die B w p n → 1 ≤ d → d ≤ 10 →
    Calls Try.prog 20 #[.pointer (some ⟨p, 0, none⟩), .int .i64 d] w fun e w' => ∃ v L, e = .returned v ∧ NsS w' (New w w') v L ∧ L.made d ∧ L.len ≤ 3 ∧ DiePost B w p n w' := by
  induction d with
  | zero => intro B p n w h h1; omega
  | succ d ih =>
    intro B p n w h h1 h2
    have H0 := Lib.hid (NRow.start h)
    clear h
    go_enter Try.func20, Try.ntmps20
    go_wp2_with (go_at_call 39; refine (next_any B p n _ _ H0.out.die (by decide) (by decide)).mono ?_; rintro e w1 ⟨z0, rfl, hz0, hd⟩; have H1 := Lib.hid (H0.out.call hd); clear hd)
    go_loopg [5, 6] z0 (fun q o i wr => ∃ L : Ns, L.len + q = z0 ∧ i = .int .i64 q ∧ L.made (d + 1) ∧ NRow B w wr p n o L)
    case atStart => exact ⟨.nil, by simp [Ns.len], rfl, trivial, H1.out⟩
    case round =>
      obtain ⟨L, hl, rfl, hm, hR⟩ := hrel
      obtain ⟨oa, oc, rfl⟩ := hR.own.form
      have HR := Lib.hid hR; have HM := Lib.hid hm
      clear hR hm
      by_cases hq : gk = 0
      · subst hq
        go_wp2_with fail
        go_ret
        exact ⟨_, L, rfl, (HR.out.own.nss (by omega)).keep fun b hs _ => ⟨rfl, hs⟩, HM.out, by omega, HR.out.2.1⟩
      · have hq1 : 0 < gk := by omega
        clear hq
        by_cases hd1 : d = 0
        · subst hd1
          clear ih
          go_wp2_with (go_at_call 21; refine (one_any B p n _ _ HR.out.die (by decide) (by decide)).mono ?_; rintro e w3 ⟨b3, rfl, hd⟩; have H3 := Lib.hid (HR.out.call hd); clear hd; cases b3)
          · skip
            go_wp2_with (first
              | (at_builtin; (with_reducible refine wpList_node rfl (.tmp 43) (.tmp 49) rfl w.heap.size (.slice oa L.len oc) L rfl H5.out.own t l .nil (.slice xa l.length xc) (.slice none 0 0) _ w5.heap.size rfl rfl hi HV.out (NsS.nil0 _ _) (by omega) H5.out.size ?_); intro o6 w6 hgr; have H6 := Lib.hid (H5.out.grew hgr); clear hgr)
              | (go_at_call 28; refine (dtag_any B p n false _ H3.out.die).mono ?_; rintro e w4 ⟨t, rfl, ht, hc, hd⟩; have HT := Lib.hid (And.intro ht hc); have hi := tagV_in ht; have H4 := Lib.hid (H3.out.call hd); clear hd ht hc)
              | (go_at_call 40; refine (dbytes_any B p n _ _ H4.out.die (by decide) (by decide)).mono ?_; rintro e w5 ⟨xv, l, rfl, hx, hxl, hd⟩; have H5 := Lib.hid (H4.out.call hd); obtain ⟨xa, xc, rfl⟩ := hx.form2; have HV := Lib.hid (H4.out.offB hx); clear hd hx))
            go_roundg (gk - 1)
            case measure => omega
            case rel =>
              refine ⟨_, by rw [Ns.len_snoc]; omega, by go_num, Ns.made_snoc ?_ L HM.out, H6.out⟩
              exact ⟨HT.out.1, .inr ⟨HT.out.2, rfl, by omega⟩, trivial⟩
          · skip
            go_wp2_with (first
              | (at_builtin; (with_reducible refine wpList_node rfl (.tmp 36) (.tmp 41) rfl w.heap.size (.slice oa L.len oc) L rfl H6.out.own t (List.replicate (120 + z1) 0) .nil (.slice (some ⟨w4.heap.size, 0, none⟩) (120 + z1) (120 + z1)) (.slice none 0 0) _ w6.heap.size rfl rfl hi HV.out (NsS.nil0 _ _) (by omega) H6.out.size ?_); intro o7 w7 hgr; have H7 := Lib.hid (H6.out.grew hgr); clear hgr)
              | (go_at_call 39; refine (next_any B p n _ _ H3.out.die (by decide) (by decide)).mono ?_; rintro e w4 ⟨z1, rfl, hz1, hd⟩; have H4 := Lib.hid (H3.out.call hd); clear hd)
              | (at_make; (with_reducible refine wpList_make_z rfl (.tmp 34) rfl (120 + (z1 : Int)) (120 + z1) rfl (by omega) (by omega) ?_); intro w5 hx hb; have H5 := Lib.hid (H4.out.below hb); have HX := Lib.hid hx; clear hx hb)
              | (go_at_call 28; refine (dtag_any B p n false _ H5.out.die).mono ?_; rintro e w6 ⟨t, rfl, ht, hc, hd⟩; have HT := Lib.hid (And.intro ht hc); have hi := tagV_in ht; have H6 := Lib.hid (H5.out.call hd); have HV := Lib.hid (H4.out.offB (new_call HX.out H4.out.die.le hd)); clear hd ht hc))
            go_roundg (gk - 1)
            case measure => omega
            case rel =>
              refine ⟨_, by rw [Ns.len_snoc]; omega, by go_num, Ns.made_snoc ?_ L HM.out, H7.out⟩
              exact ⟨HT.out.1, .inr ⟨HT.out.2, rfl, by simp; omega⟩, trivial⟩
        · have hd2 : 1 < d + 1 := by omega
          clear hd1
          go_wp2_with (go_at_call 21; refine (one_any B p n _ _ HR.out.die (by decide) (by decide)).mono ?_; rintro e w2 ⟨b, rfl, hd⟩; have H2 := Lib.hid (HR.out.call hd); clear hd; cases b)
          · clear ih
            go_wp2_with (go_at_call 21; refine (one_any B p n _ _ H2.out.die (by decide) (by decide)).mono ?_; rintro e w3 ⟨b3, rfl, hd⟩; have H3 := Lib.hid (H2.out.call hd); clear hd; cases b3)
            · skip
              go_wp2_with (first
                | (at_builtin; (with_reducible refine wpList_node rfl (.tmp 43) (.tmp 49) rfl w.heap.size (.slice oa L.len oc) L rfl H5.out.own t l .nil (.slice xa l.length xc) (.slice none 0 0) _ w5.heap.size rfl rfl hi HV.out (NsS.nil0 _ _) (by omega) H5.out.size ?_); intro o6 w6 hgr; have H6 := Lib.hid (H5.out.grew hgr); clear hgr)
                | (go_at_call 28; refine (dtag_any B p n false _ H3.out.die).mono ?_; rintro e w4 ⟨t, rfl, ht, hc, hd⟩; have HT := Lib.hid (And.intro ht hc); have hi := tagV_in ht; have H4 := Lib.hid (H3.out.call hd); clear hd ht hc)
                | (go_at_call 40; refine (dbytes_any B p n _ _ H4.out.die (by decide) (by decide)).mono ?_; rintro e w5 ⟨xv, l, rfl, hx, hxl, hd⟩; have H5 := Lib.hid (H4.out.call hd); obtain ⟨xa, xc, rfl⟩ := hx.form2; have HV := Lib.hid (H4.out.offB hx); clear hd hx))
              go_roundg (gk - 1)
              case measure => omega
              case rel =>
                refine ⟨_, by rw [Ns.len_snoc]; omega, by go_num, Ns.made_snoc ?_ L HM.out, H6.out⟩
                exact ⟨HT.out.1, .inr ⟨HT.out.2, rfl, by omega⟩, trivial⟩
            · skip
              go_wp2_with (first
                | (at_builtin; (with_reducible refine wpList_node rfl (.tmp 36) (.tmp 41) rfl w.heap.size (.slice oa L.len oc) L rfl H6.out.own t (List.replicate (120 + z1) 0) .nil (.slice (some ⟨w4.heap.size, 0, none⟩) (120 + z1) (120 + z1)) (.slice none 0 0) _ w6.heap.size rfl rfl hi HV.out (NsS.nil0 _ _) (by omega) H6.out.size ?_); intro o7 w7 hgr; have H7 := Lib.hid (H6.out.grew hgr); clear hgr)
                | (go_at_call 39; refine (next_any B p n _ _ H3.out.die (by decide) (by decide)).mono ?_; rintro e w4 ⟨z1, rfl, hz1, hd⟩; have H4 := Lib.hid (H3.out.call hd); clear hd)
                | (at_make; (with_reducible refine wpList_make_z rfl (.tmp 34) rfl (120 + (z1 : Int)) (120 + z1) rfl (by omega) (by omega) ?_); intro w5 hx hb; have H5 := Lib.hid (H4.out.below hb); have HX := Lib.hid hx; clear hx hb)
                | (go_at_call 28; refine (dtag_any B p n false _ H5.out.die).mono ?_; rintro e w6 ⟨t, rfl, ht, hc, hd⟩; have HT := Lib.hid (And.intro ht hc); have hi := tagV_in ht; have H6 := Lib.hid (H5.out.call hd); have HV := Lib.hid (H4.out.offB (new_call HX.out H4.out.die.le hd)); clear hd ht hc))
              go_roundg (gk - 1)
              case measure => omega
              case rel =>
                refine ⟨_, by rw [Ns.len_snoc]; omega, by go_num, Ns.made_snoc ?_ L HM.out, H7.out⟩
                exact ⟨HT.out.1, .inr ⟨HT.out.2, rfl, by simp; omega⟩, trivial⟩
          · skip
            have HI := fun B p n w h => Lib.hid (ih B p n w h (by omega) (by omega))
            clear ih
            have hdd : ((d + 1 : Nat) : Int) - 1 = d := by omega
            go_wp2_with (first
              | (at_builtin; (with_reducible refine wpList_node rfl (.tmp 20) (.tmp 28) rfl w.heap.size (.slice oa L.len oc) L rfl H4.out.own t [] K (.slice none 0 0) (.slice ka K.len kc) _ w4.heap.size rfl rfl hi (BsS.nil0 _ _) HK.out (by omega) H4.out.size ?_); intro o5 w5 hgr; have H5 := Lib.hid (H4.out.grew hgr); clear hgr)
              | (go_at_call 28; refine (dtag_any B p n true _ H2.out.die).mono ?_; rintro e w3 ⟨t, rfl, ht, hc, hd⟩; have HT := Lib.hid (And.intro ht hc); have hi := tagV_in ht; have H3 := Lib.hid (H2.out.call hd); clear hd ht hc)
              | (go_at_call 20; refine (HI B p n _ H3.out.die).out.mono ?_; rintro e w4 ⟨kv, K, rfl, hk, hkm, hkl, hd⟩; have H4 := Lib.hid (H3.out.call hd); obtain ⟨ka, kc, rfl⟩ := hk.form2; have HK := Lib.hid (H3.out.offN hk); have HKM := Lib.hid hkm; clear hd hk hkm))
            go_roundg (gk - 1)
            case measure => omega
            case rel =>
              refine ⟨_, by rw [Ns.len_snoc]; omega, by go_num, Ns.made_snoc ?_ L HM.out, H5.out⟩
              exact ⟨HT.out.1, .inl ⟨HT.out.2, rfl, by omega, HKM.out, hkl⟩, trivial⟩
end Go.Proofs.Ytljalnfjneeieaa
/- Layer 2, plain: made objects are good ones; a beginning of one object is truncated. No program is named here. -/
namespace Go.Proofs.Ytljalnfjneeieaa
open Go.RowKit

theorem made_chk (l : Ns) : ∀ d s, l.made d → 1 ≤ d → d + s ≤ 9 → l.chk s = 0 := by
  induction l with
  | nil => intro d s _ _ _; rfl
  | cons t v k r ihk ihr =>
    intro d s ⟨tv, hf, hr⟩ h1 h2
    have hrr := ihr d s hr h1 h2
    rcases hf with ⟨tc, rfl, h3, hk, _⟩ | ⟨tc, rfl, _⟩
    · rw [chk_good t [] k r s tv (by rw [tc]; simp), if_neg (by omega), if_pos (ihk (d - 1) (s + 1) hk (by omega) (by omega)), hrr]
    · rw [chk_good t v .nil r s tv (by rw [tc]; simp [Ns.len]), if_neg (by omega), if_pos (show Ns.nil.chk (s + 1) = 0 from rfl), hrr]
def allM : Nat → Nat
  | 0 => 1
  | 1 => 1
  | d + 2 => 1 + 3 * allM (d + 1)
theorem made_all (l : Ns) : ∀ d, l.made d → l.all ≤ l.len * allM d := by
  induction l with
  | nil => intro d _; simp [Ns.all]
  | cons t v k r ihk ihr =>
    intro d ⟨tv, hf, hr⟩
    have hrr := ihr d hr
    simp only [Ns.all, Ns.len, Nat.add_mul, Nat.one_mul]
    rcases hf with ⟨tc, rfl, h3, hk, hl⟩ | ⟨tc, rfl, _⟩
    · obtain ⟨e, rfl⟩ : ∃ e, d = e + 2 := ⟨d - 2, by omega⟩
      have hkk := ihk (e + 1) hk
      have : k.len * allM (e + 1) ≤ 3 * allM (e + 1) := Nat.mul_le_mul_right _ hl
      rw [show allM (e + 2) = 1 + 3 * allM (e + 1) from rfl] at *
      omega
    · have : 1 ≤ allM d := by
        match d with
        | 0 => simp [allM]
        | 1 => simp [allM]
        | d + 2 => rw [show allM (d + 2) = 1 + 3 * allM (d + 1) from rfl]; omega
      simp only [Ns.all]
      omega
theorem made_enc (l : Ns) : ∀ d, l.made d → l.enc.length ≤ 280 * l.all := by
  induction l with
  | nil => intro d _; simp [Ns.enc]
  | cons t v k r ihk ihr =>
    intro d ⟨tv, hf, hr⟩
    have hrr := ihr d hr
    have he := enc_len t v k r
    simp only [Ns.all]
    rcases hf with ⟨tc, rfl, h3, hk, hl⟩ | ⟨tc, rfl, hv⟩
    · have hkk := ihk (d - 1) hk
      rw [if_pos tc] at he
      omega
    · rw [if_neg (by rw [tc]; decide)] at he
      simp only [Ns.all]
      omega
theorem good_encP {l : Ns} (h1 : l.chk 1 = 0) (h2 : l.all ≤ 256) : encP l = if 4096 < l.enc.length then .error 2 else .ok l.enc := by
  unfold encP
  rw [if_neg (by simpa using h1), if_neg (by omega)]
/-- One constructed object with a short content, cut. -/
theorem cut_one {t : Int} {k : Ns} {j : Nat} (tv : tagV t = true) (tc : tagC t = true) (hn : k.enc.length ≤ 127) (hj : 1 ≤ j) (hj2 : j < (Ns.cons t [] k .nil).enc.length) :
    parseP ((Ns.cons t [] k .nil).enc.take j) true = .error 6 ∧ (Ns.cons t [] k .nil).enc.length = (tagB t).length + 1 + k.enc.length ∧
    (j < (tagB t).length + 1 → sizeQ ((Ns.cons t [] k .nil).enc.take j) = .error 6) ∧ (¬ j < (tagB t).length + 1 → sizeQ ((Ns.cons t [] k .nil).enc.take j) = .ok ((Ns.cons t [] k .nil).enc.length : Nat)) := by
  have e : (Ns.cons t [] k .nil).enc = tagB t ++ (ofI (k.enc.length : Nat) :: k.enc) := by
    rw [enc_cons t [] k .nil k.enc (by rw [tc]; rfl)]
    simp [lenG, Ns.enc, show k.enc.length < 128 by omega]
  rw [e] at hj2 ⊢
  simp only [List.length_append, List.length_cons] at hj2 ⊢
  obtain ⟨a0, tl, htb, ha0⟩ := tagB_head tv
  have h1 : 1 ≤ (tagB t).length := by rw [htb]; simp
  have hlen2 : (tagB t).length ≤ 2 := by unfold tagB; split <;> simp
  obtain ⟨K, hK⟩ : ∃ K, K = (tagB t ++ (ofI (k.enc.length : Nat) :: k.enc)).take j := ⟨_, rfl⟩
  have hKl : K.length = j := by rw [hK, List.length_take, List.length_append, List.length_cons]; omega
  have hne : ∃ x q, K = x :: q := by
    cases K with
    | nil => simp at hKl; omega
    | cons x q => exact ⟨x, q, rfl⟩
  rw [← hK]
  have hh : headP K false = none := by obtain ⟨x, q, e⟩ := hne; rw [e]; simp [headP]
  obtain ⟨m, hm⟩ : ∃ m, K.length = m + 1 := ⟨K.length - 1, by omega⟩
  have done : objP true m K 1 0 = .error 6 → parseP K true = .error 6 := fun ho => by
    unfold parseP
    rw [if_neg (by omega), hm, listP_err hh ho]
  by_cases hjt : j < (tagB t).length
  · have hj1 : j = 1 := by omega
    have ht : tagP K = .error 6 := by
      rcases tagV_cases tv with ⟨a1, a2, a3⟩ | ⟨a1, a2, a3, a4, a5⟩
      · have : tagB t = [ofI t] := by unfold tagB; rw [if_neg (by omega)]
        rw [this] at hjt; simp at hjt; omega
      · have eb : tagB t = [ofI (t / 256), ofI t] := by unfold tagB; rw [if_pos (by omega)]
        have b : bv (ofI (t / 256)) = t / 256 := bv_in (by omega) (by omega)
        have eK : K = [ofI (t / 256)] := by rw [hK, eb, hj1]; rfl
        rw [eK]
        unfold tagP
        rw [if_neg (by simp), bvc, b, if_pos a3, if_pos (by simp)]
    refine ⟨done (by unfold objP objF; rw [ht]), by omega, fun _ => by unfold sizeQ; rw [ht], fun h => by omega⟩
  · have eK : K = tagB t ++ (ofI (k.enc.length : Nat) :: k.enc).take (j - (tagB t).length) := by rw [hK, List.take_append, List.take_of_length_le (by omega)]
    have ht : tagP K = .ok (t, (tagB t).length) := by rw [eK]; exact tagB_read tv _
    have hD : K.drop (tagB t).length = (ofI (k.enc.length : Nat) :: k.enc).take (j - (tagB t).length) := by rw [eK]; simp
    by_cases hj3 : j = (tagB t).length
    · have hs : ∀ o s, sizeP (K.drop (tagB t).length) o s = .error 6 := fun o s => by
        rw [hD, hj3, Nat.sub_self]; rfl
      refine ⟨done (obj_e1 ht (hs _ _)), by omega, fun _ => by unfold sizeQ; rw [ht]; simp only [hs], fun h => by omega⟩
    · obtain ⟨q, hq⟩ : ∃ q, j - (tagB t).length = q + 1 := ⟨j - (tagB t).length - 1, by omega⟩
      have hD2 : K.drop (tagB t).length = [ofI (k.enc.length : Nat)] ++ k.enc.take q := by rw [hD, hq]; rfl
      have hs : ∀ cn st, sizeP (K.drop (tagB t).length) (cn && !st) st = .ok ((k.enc.length : Int), 1) := fun cn st => by
        rw [hD2]; exact len1 st cn (by omega) _
      have hs2 : sizeP (K.drop (tagB t).length) false false = .ok ((k.enc.length : Int), 1) := by
        have := hs false false; simpa using this
      refine ⟨done (obj_e4 ht (hs _ _) (by omega) (by omega) ?_), by omega, fun h => by omega, fun _ => ?_⟩
      · rw [List.length_drop]; omega
      · unfold sizeQ
        rw [ht]
        simp only [hs2]
        congr 1; omega
theorem tagB_len {t : Int} : (tagB t).length = if 255 < t then 2 else 1 := by unfold tagB; split <;> rfl
end Go.Proofs.Ytljalnfjneeieaa
namespace Go.Proofs.Ytljalnfjneeieaa
open Go.RowKit Go.Deep

/-- What TlvCuts leans on, of the encoding E of one constructed object with head bytes hd. -/
structure CutF (E : List UInt8) (hd : Nat) : Prop where
  long : hd + 0 ≤ E.length
  par : E.length ≤ hd + 127 → ∀ j, 1 ≤ j → j < E.length → parseP (E.take j) true = .error 6
  lo : E.length ≤ hd + 127 → ∀ j, 1 ≤ j → j < E.length → j < hd → sizeQ (E.take j) = .error 6
  hi : E.length ≤ hd + 127 → ∀ j, 1 ≤ j → j < E.length → ¬ j < hd → sizeQ (E.take j) = .ok (E.length : Nat)
theorem lenG_pos (n : Nat) : 1 ≤ (lenG n).length := by unfold lenG; split <;> simp
theorem cut_facts {t : Int} {k : Ns} (tv : tagV t = true) (tc : tagC t = true) : CutF (Ns.cons t [] k .nil).enc ((tagB t).length + 1) := by
  have e : (Ns.cons t [] k .nil).enc = tagB t ++ lenG k.enc.length ++ k.enc ++ [] := enc_cons t [] k .nil k.enc (by rw [tc]; rfl)
  have hl : (Ns.cons t [] k .nil).enc.length = (tagB t).length + (lenG k.enc.length).length + k.enc.length := by rw [e]; simp only [List.length_append, List.length_nil]; omega
  have hp := lenG_pos k.enc.length
  exact ⟨by omega, fun h j h1 h2 => (cut_one tv tc (by omega) h1 h2).1, fun h j h1 h2 h3 => (cut_one tv tc (by omega) h1 h2).2.2.1 h3, fun h j h1 h2 h3 => (cut_one tv tc (by omega) h1 h2).2.2.2 h3⟩
theorem NodesOut.bad {r : Except Int Ns} {w : World} {e : Ending} {w' : World} (h : NodesOut r w e w') {er : Int} (h1 : r = .error er) : ∃ a c, e = .returned (.tuple #[.slice a 0 c, .int .i64 er]) ∧ Below w.heap.size w w' := by subst h1; exact NodesOut.err h
theorem NumPost.parts {r : Except Int Int} {w : World} {e : Ending} {w' : World} (h : NumPost r w e w') : e = .returned (.tuple #[.int .i64 (numOf r), .int .i64 (errOf r)]) ∧ Below w.heap.size w w' := h
theorem NumPost.bad {r : Except Int Int} {w : World} {e : Ending} {w' : World} (h : NumPost r w e w') {er : Int} (h1 : r = .error er) : e = .returned (.tuple #[.int .i64 0, .int .i64 er]) ∧ Below w.heap.size w w' := by subst h1; exact h
theorem NumPost.good {r : Except Int Int} {w : World} {e : Ending} {w' : World} (h : NumPost r w e w') {n : Int} (h1 : r = .ok n) : e = .returned (.tuple #[.int .i64 n, .int .i64 0]) ∧ Below w.heap.size w w' := by subst h1; exact h
theorem BytesOut.fits {r : Except Int (List UInt8)} {w : World} {e : Ending} {w' : World} (h : BytesOut r w e w') {E : List UInt8} (h1 : r = .ok E) : ∃ a c, e = .returned (.tuple #[.slice a E.length c, .int .i64 0]) ∧ BsS w' (New w w') (.slice a E.length c) E ∧ E.length ≤ c ∧ Below w.heap.size w w' := by
  subst h1
  obtain ⟨a, c, g1, g2, g3⟩ := BytesOut.got h
  exact ⟨a, c, g1, g2, g2.capLe.1, g3⟩
theorem BytesOut.bad {r : Except Int (List UInt8)} {w : World} {e : Ending} {w' : World} (h : BytesOut r w e w') {er : Int} (h1 : r = .error er) : ∃ a c, e = .returned (.tuple #[.slice a 0 c, .int .i64 er]) ∧ Below w.heap.size w w' := by subst h1; exact BytesOut.err h
set_option maxRecDepth 100000 in
set_option maxHeartbeats 4000000 in
theorem tlvCuts_law (v : Value) (n : Nat) (at_ : Int) (wf : (Lit.int .i64 at_).wf = true) (w : World) (hv : IntsS w (· < w.heap.size) v n) : Calls Try.prog 7 #[v, .int .i64 at_] w fun e w' => e = .returned (.bool true) ∧ Below w.heap.size w w' := by
  have hat : I64in at_ := by simp [Lit.wf, IntKind.min, IntKind.max, IntKind.signed, IntKind.bits] at wf; exact ⟨by omega, by omega⟩
  have HAT := Lib.hid hat
  have HL := Lib.hid (light_any _ v n w hv)
  have HR := Lib.hid (roll_any v n w hv)
  obtain ⟨va, vc, rfl⟩ := hv.form
  clear hv wf hat
  by_cases hn : (n : Int) ≤ 400
  · have hn1 : decide ((n : Int) ≤ 400) = true := decide_eq_true hn
    rw [hn1] at HL
    clear hn hn1
    go_enter Try.func7, Try.ntmps7
    go_upto_region 5 with (first
      | (go_at_call 16; refine HL.out.mono ?_; rintro e w' ⟨rfl, hw'⟩; rw [hw']; clear hw' w')
      | (go_at_call 17; refine HR.out.mono ?_; rintro e w1 ⟨rfl, hd, hb⟩; have HD1 := Lib.hid hd; have B1 := Lib.hid hb; have s1 := hb.size; have s1' := hd.le; clear hd hb)
      | (go_at_call 28; refine (dtag_any _ _ n true _ HD1.out).mono ?_; rintro e w2 ⟨t, rfl, ht, hc, hd⟩; have HTV := Lib.hid ht; have HTC := Lib.hid hc; have HD2 := Lib.hid hd; clear ht hc hd)
      | (go_at_call 20; refine (dnodes_any 3 _ _ n _ HD2.out.1 (by decide) (by decide)).mono ?_; rintro e w3 ⟨kv, K, rfl, hk, hkm, hkl, hd⟩; obtain ⟨ka, kc, rfl⟩ := hk.form2; have HK := Lib.hid hk; have HKM := Lib.hid hkm; have HD3 := Lib.hid hd; clear hk hkm hd))
    have ti := tagV_in HTV.out
    have B3 : Hid (Below w.heap.size w w3) := (B1.out.grown HD2.out.2 (by omega) (fun k e => by injection e with e; omega)).grown HD3.out.2 (by have := HD2.out.2.size; omega) (fun k e => by injection e with e; omega)
    have z3 := B3.out.size
    have hall : K.all ≤ 39 := by have h := made_all K 3 HKM.out; have : allM 3 = 13 := rfl; rw [this] at h; omega
    have hchk : (Ns.cons t [] K .nil).chk 1 = 0 := by rw [chk_good t [] K .nil 1 HTV.out (by rw [HTC.out]; simp), if_neg (by omega), if_pos (made_chk K 3 2 HKM.out (by omega) (by omega))]; rfl
    have hal : (Ns.cons t [] K .nil).all ≤ 256 := by simp only [Ns.all]; omega
    have hKe := made_enc K 3 HKM.out
    have hel := enc_len t [] K .nil
    rw [if_pos HTC.out] at hel
    have hnil : (Ns.nil).enc.length = 0 := rfl
    have HE := Lib.hid (fun (w4 : World) (h4 : w4 = (w3.alloc (.cells #[.int .i64 t, .slice none 0 0, .slice ka K.len kc] 42)).alloc (.cells #[.int .i64 t, .slice none 0 0, .slice ka K.len kc] 42)) => encode_any (Ns.cons t [] K .nil) (.slice (some ⟨w3.heap.size + 1, 0, none⟩) 1 1) w4
      (by subst h4; exact NsS.one (by have := heap_alloc_new (w3.alloc (.cells #[.int .i64 t, .slice none 0 0, .slice ka K.len kc] 42)) (.cells #[.int .i64 t, .slice none 0 0, .slice ka K.len kc] 42); simpa using this) (by simp) ti (BsS.nil0 _ _) (HK.out.keep fun b hs hl => ⟨(Below.heap_alloc _ _ _ (by simp; omega)).trans (Below.heap_alloc _ _ _ hl), by simp; omega⟩)) (by omega) (by omega))
    have HB4 : Hid (Below w.heap.size w ((w3.alloc (.cells #[.int .i64 t, .slice none 0 0, .slice ka K.len kc] 42)).alloc (.cells #[.int .i64 t, .slice none 0 0, .slice ka K.len kc] 42))) := (B3.out.alloc z3 _).alloc (by simp; omega) _
    have z4 := HB4.out.size
    obtain ⟨nc0, nc1, nc2⟩ := node_cells w3 (.int .i64 t) (.slice none 0 0) (.slice ka K.len kc) 42
    have hep := good_encP hchk hal
    have HCF := Lib.hid (cut_facts (k := K) HTV.out HTC.out)
    have htl := tagB_len (t := t)
    clear hall hchk hal hKe hel hnil s1 s1'
    by_cases h4 : 4096 < (Ns.cons t [] K .nil).enc.length
    · rw [if_pos h4] at hep
      have HEP := Lib.hid hep
      clear hep h4 htl
      go_wp2_with (first
        | (go_at_call 23; refine (HE.out _ rfl).mono ?_; intro e w4 h4; obtain ⟨a4, c4, rfl, hb4⟩ := h4.bad HEP.out; have K4 := Lib.hid (HB4.out.trans (hb4.mono z4)); clear h4 hb4)
        | (go_at_call 11; refine (awake_any _).mono ?_; rintro e w7 ⟨rfl, hb7⟩; have K7 := Lib.hid (K4.out.trans (hb7.mono K4.out.size)); clear hb7))
      go_ret
      exact ⟨by simp, K7.out⟩
    · rw [if_neg h4] at hep
      obtain ⟨E, hE⟩ : ∃ E, Hid ((Ns.cons t [] K .nil).enc = E) := ⟨_, rfl⟩
      rw [hE.out] at hep HCF h4
      have HEP := Lib.hid hep
      have hlong := HCF.out.long
      clear hep
      by_cases h255 : 255 < t
      · rw [if_pos h255] at htl
        rw [htl] at HCF hlong
        clear htl
        have d255 : decide (t > 255) = true := decide_eq_true h255
        clear h255
        by_cases h127 : E.length ≤ 3 + 127
        · have HP := Lib.hid (HCF.out.par h127); have HLO := Lib.hid (HCF.out.lo h127); have HHI := Lib.hid (HCF.out.hi h127)
          clear HCF
          obtain ⟨r, hr⟩ : ∃ r : Nat, Hid (at_ % ((E.length : Int) - 1) = r) := ⟨(at_ % ((E.length : Int) - 1)).toNat, by have := Int.emod_nonneg at_ (show (E.length : Int) - 1 ≠ 0 by omega); show _ = _; omega⟩
          have hr2 : r + 1 < E.length := by have := Int.emod_lt_of_pos at_ (show 0 < (E.length : Int) - 1 by omega); rw [hr.out] at this; omega
          have HM := Lib.hid (fun w => mod_any at_ ((E.length : Int) - 1) HAT.out (by omega) (by omega) w)
          rw [hr.out] at HM
          obtain ⟨j, hj⟩ : ∃ j : Nat, Hid (j = r + 1) := ⟨_, rfl⟩
          have hj1 : (1 : Int) + r = j := by have := hj.out; omega
          have hj2 : j < E.length := by have := hj.out; omega
          have hj3 : 1 ≤ j := by have := hj.out; omega
          clear hr2
          by_cases hk : j < 3
          · skip
            have HQ := Lib.hid (HLO.out j hj3 hj2 hk)
            go_wp2_with (first
              | (go_at_call 23; refine (HE.out _ rfl).mono ?_; intro e w4 h4'; obtain ⟨a4, c4, rfl, hv4, hc4, hb4⟩ := h4'.fits HEP.out; have HV4 := Lib.hid hv4; have K4 := Lib.hid (HB4.out.trans (hb4.mono z4)); have n4 := (Below.cell hb4 (p := ⟨w3.heap.size, 0, none⟩) (by simp; omega)).trans ((Below.cell (Below.alloc (Below.refl (w3.heap.size + 1) (w3.alloc (.cells #[.int .i64 t, .slice none 0 0, .slice ka K.len kc] 42))) (by simp) (.cells #[.int .i64 t, .slice none 0 0, .slice ka K.len kc] 42)) (p := ⟨w3.heap.size, 0, none⟩) (Nat.lt_succ_self _)).trans nc0); clear h4' hv4 hb4)
              | (go_at_call 25; refine (HM.out _).mono ?_; rintro e w5 ⟨rfl, hw5⟩; rw [hw5]; clear hw5 w5)
              | (go_at_call 22; refine (parse_any (E.take j) _ true _ ((BsS.head HV4.out j (by omega)).keep fun b hs hl => ⟨rfl, hl⟩)).mono ?_; intro e w5 h5; obtain ⟨a5, c5, rfl, hb5⟩ := h5.bad (HP.out j hj3 hj2); have HV5 := Lib.hid (HV4.out.below hb5); have K5 := Lib.hid (K4.out.trans (hb5.mono K4.out.size)); clear h5 hb5)
              | (go_at_call 29; refine (size_any (E.take j) _ _ ((BsS.head HV5.out j (by omega)).keep fun b hs hl => ⟨rfl, hl⟩)).mono ?_; intro e w6 h6; obtain ⟨rfl, hb6⟩ := h6.bad HQ.out; have K6 := Lib.hid (K5.out.trans (hb6.mono K5.out.size)); clear h6 hb6)
              | (go_at_call 11; refine (awake_any _).mono ?_; rintro e w7 ⟨rfl, hb7⟩; have K7 := Lib.hid (K6.out.trans (hb7.mono K6.out.size)); clear hb7))
            go_ret
            exact ⟨by simp, K7.out⟩
          · skip
            have HQ := Lib.hid (HHI.out j hj3 hj2 hk)
            go_wp2_with (first
              | (go_at_call 23; refine (HE.out _ rfl).mono ?_; intro e w4 h4'; obtain ⟨a4, c4, rfl, hv4, hc4, hb4⟩ := h4'.fits HEP.out; have HV4 := Lib.hid hv4; have K4 := Lib.hid (HB4.out.trans (hb4.mono z4)); have n4 := (Below.cell hb4 (p := ⟨w3.heap.size, 0, none⟩) (by simp; omega)).trans ((Below.cell (Below.alloc (Below.refl (w3.heap.size + 1) (w3.alloc (.cells #[.int .i64 t, .slice none 0 0, .slice ka K.len kc] 42))) (by simp) (.cells #[.int .i64 t, .slice none 0 0, .slice ka K.len kc] 42)) (p := ⟨w3.heap.size, 0, none⟩) (Nat.lt_succ_self _)).trans nc0); clear h4' hv4 hb4)
              | (go_at_call 25; refine (HM.out _).mono ?_; rintro e w5 ⟨rfl, hw5⟩; rw [hw5]; clear hw5 w5)
              | (go_at_call 22; refine (parse_any (E.take j) _ true _ ((BsS.head HV4.out j (by omega)).keep fun b hs hl => ⟨rfl, hl⟩)).mono ?_; intro e w5 h5; obtain ⟨a5, c5, rfl, hb5⟩ := h5.bad (HP.out j hj3 hj2); have HV5 := Lib.hid (HV4.out.below hb5); have K5 := Lib.hid (K4.out.trans (hb5.mono K4.out.size)); clear h5 hb5)
              | (go_at_call 29; refine (size_any (E.take j) _ _ ((BsS.head HV5.out j (by omega)).keep fun b hs hl => ⟨rfl, hl⟩)).mono ?_; intro e w6 h6; obtain ⟨rfl, hb6⟩ := h6.good HQ.out; have K6 := Lib.hid (K5.out.trans (hb6.mono K5.out.size)); clear h6 hb6)
              | (go_at_call 11; refine (awake_any _).mono ?_; rintro e w7 ⟨rfl, hb7⟩; have K7 := Lib.hid (K6.out.trans (hb7.mono K6.out.size)); clear hb7))
            go_ret
            exact ⟨by simp, K7.out⟩
        · clear HCF
          go_wp2_with (first
            | (go_at_call 23; refine (HE.out _ rfl).mono ?_; intro e w4 h4'; obtain ⟨a4, c4, rfl, hv4, hc4, hb4⟩ := h4'.fits HEP.out; have HV4 := Lib.hid hv4; have K4 := Lib.hid (HB4.out.trans (hb4.mono z4)); have n4 := (Below.cell hb4 (p := ⟨w3.heap.size, 0, none⟩) (by simp; omega)).trans ((Below.cell (Below.alloc (Below.refl (w3.heap.size + 1) (w3.alloc (.cells #[.int .i64 t, .slice none 0 0, .slice ka K.len kc] 42))) (by simp) (.cells #[.int .i64 t, .slice none 0 0, .slice ka K.len kc] 42)) (p := ⟨w3.heap.size, 0, none⟩) (Nat.lt_succ_self _)).trans nc0); clear h4' hv4 hb4)
            | (go_at_call 11; refine (awake_any _).mono ?_; rintro e w7 ⟨rfl, hb7⟩; have K7 := Lib.hid (K4.out.trans (hb7.mono K4.out.size)); clear hb7))
          go_ret
          exact ⟨by simp, K7.out⟩
      · rw [if_neg h255] at htl
        rw [htl] at HCF hlong
        clear htl
        have d255 : decide (t > 255) = false := decide_eq_false h255
        clear h255
        by_cases h127 : E.length ≤ 2 + 127
        · have HP := Lib.hid (HCF.out.par h127); have HLO := Lib.hid (HCF.out.lo h127); have HHI := Lib.hid (HCF.out.hi h127)
          clear HCF
          obtain ⟨r, hr⟩ : ∃ r : Nat, Hid (at_ % ((E.length : Int) - 1) = r) := ⟨(at_ % ((E.length : Int) - 1)).toNat, by have := Int.emod_nonneg at_ (show (E.length : Int) - 1 ≠ 0 by omega); show _ = _; omega⟩
          have hr2 : r + 1 < E.length := by have := Int.emod_lt_of_pos at_ (show 0 < (E.length : Int) - 1 by omega); rw [hr.out] at this; omega
          have HM := Lib.hid (fun w => mod_any at_ ((E.length : Int) - 1) HAT.out (by omega) (by omega) w)
          rw [hr.out] at HM
          obtain ⟨j, hj⟩ : ∃ j : Nat, Hid (j = r + 1) := ⟨_, rfl⟩
          have hj1 : (1 : Int) + r = j := by have := hj.out; omega
          have hj2 : j < E.length := by have := hj.out; omega
          have hj3 : 1 ≤ j := by have := hj.out; omega
          clear hr2
          by_cases hk : j < 2
          · skip
            have HQ := Lib.hid (HLO.out j hj3 hj2 hk)
            go_wp2_with (first
              | (go_at_call 23; refine (HE.out _ rfl).mono ?_; intro e w4 h4'; obtain ⟨a4, c4, rfl, hv4, hc4, hb4⟩ := h4'.fits HEP.out; have HV4 := Lib.hid hv4; have K4 := Lib.hid (HB4.out.trans (hb4.mono z4)); have n4 := (Below.cell hb4 (p := ⟨w3.heap.size, 0, none⟩) (by simp; omega)).trans ((Below.cell (Below.alloc (Below.refl (w3.heap.size + 1) (w3.alloc (.cells #[.int .i64 t, .slice none 0 0, .slice ka K.len kc] 42))) (by simp) (.cells #[.int .i64 t, .slice none 0 0, .slice ka K.len kc] 42)) (p := ⟨w3.heap.size, 0, none⟩) (Nat.lt_succ_self _)).trans nc0); clear h4' hv4 hb4)
              | (go_at_call 25; refine (HM.out _).mono ?_; rintro e w5 ⟨rfl, hw5⟩; rw [hw5]; clear hw5 w5)
              | (go_at_call 22; refine (parse_any (E.take j) _ true _ ((BsS.head HV4.out j (by omega)).keep fun b hs hl => ⟨rfl, hl⟩)).mono ?_; intro e w5 h5; obtain ⟨a5, c5, rfl, hb5⟩ := h5.bad (HP.out j hj3 hj2); have HV5 := Lib.hid (HV4.out.below hb5); have K5 := Lib.hid (K4.out.trans (hb5.mono K4.out.size)); clear h5 hb5)
              | (go_at_call 29; refine (size_any (E.take j) _ _ ((BsS.head HV5.out j (by omega)).keep fun b hs hl => ⟨rfl, hl⟩)).mono ?_; intro e w6 h6; obtain ⟨rfl, hb6⟩ := h6.bad HQ.out; have K6 := Lib.hid (K5.out.trans (hb6.mono K5.out.size)); clear h6 hb6)
              | (go_at_call 11; refine (awake_any _).mono ?_; rintro e w7 ⟨rfl, hb7⟩; have K7 := Lib.hid (K6.out.trans (hb7.mono K6.out.size)); clear hb7))
            go_ret
            exact ⟨by simp, K7.out⟩
          · skip
            have HQ := Lib.hid (HHI.out j hj3 hj2 hk)
            go_wp2_with (first
              | (go_at_call 23; refine (HE.out _ rfl).mono ?_; intro e w4 h4'; obtain ⟨a4, c4, rfl, hv4, hc4, hb4⟩ := h4'.fits HEP.out; have HV4 := Lib.hid hv4; have K4 := Lib.hid (HB4.out.trans (hb4.mono z4)); have n4 := (Below.cell hb4 (p := ⟨w3.heap.size, 0, none⟩) (by simp; omega)).trans ((Below.cell (Below.alloc (Below.refl (w3.heap.size + 1) (w3.alloc (.cells #[.int .i64 t, .slice none 0 0, .slice ka K.len kc] 42))) (by simp) (.cells #[.int .i64 t, .slice none 0 0, .slice ka K.len kc] 42)) (p := ⟨w3.heap.size, 0, none⟩) (Nat.lt_succ_self _)).trans nc0); clear h4' hv4 hb4)
              | (go_at_call 25; refine (HM.out _).mono ?_; rintro e w5 ⟨rfl, hw5⟩; rw [hw5]; clear hw5 w5)
              | (go_at_call 22; refine (parse_any (E.take j) _ true _ ((BsS.head HV4.out j (by omega)).keep fun b hs hl => ⟨rfl, hl⟩)).mono ?_; intro e w5 h5; obtain ⟨a5, c5, rfl, hb5⟩ := h5.bad (HP.out j hj3 hj2); have HV5 := Lib.hid (HV4.out.below hb5); have K5 := Lib.hid (K4.out.trans (hb5.mono K4.out.size)); clear h5 hb5)
              | (go_at_call 29; refine (size_any (E.take j) _ _ ((BsS.head HV5.out j (by omega)).keep fun b hs hl => ⟨rfl, hl⟩)).mono ?_; intro e w6 h6; obtain ⟨rfl, hb6⟩ := h6.good HQ.out; have K6 := Lib.hid (K5.out.trans (hb6.mono K5.out.size)); clear h6 hb6)
              | (go_at_call 11; refine (awake_any _).mono ?_; rintro e w7 ⟨rfl, hb7⟩; have K7 := Lib.hid (K6.out.trans (hb7.mono K6.out.size)); clear hb7))
            go_ret
            exact ⟨by simp, K7.out⟩
        · clear HCF
          go_wp2_with (first
            | (go_at_call 23; refine (HE.out _ rfl).mono ?_; intro e w4 h4'; obtain ⟨a4, c4, rfl, hv4, hc4, hb4⟩ := h4'.fits HEP.out; have HV4 := Lib.hid hv4; have K4 := Lib.hid (HB4.out.trans (hb4.mono z4)); have n4 := (Below.cell hb4 (p := ⟨w3.heap.size, 0, none⟩) (by simp; omega)).trans ((Below.cell (Below.alloc (Below.refl (w3.heap.size + 1) (w3.alloc (.cells #[.int .i64 t, .slice none 0 0, .slice ka K.len kc] 42))) (by simp) (.cells #[.int .i64 t, .slice none 0 0, .slice ka K.len kc] 42)) (p := ⟨w3.heap.size, 0, none⟩) (Nat.lt_succ_self _)).trans nc0); clear h4' hv4 hb4)
            | (go_at_call 11; refine (awake_any _).mono ?_; rintro e w7 ⟨rfl, hb7⟩; have K7 := Lib.hid (K4.out.trans (hb7.mono K4.out.size)); clear hb7))
          go_ret
          exact ⟨by simp, K7.out⟩
  · have hn1 : decide ((n : Int) ≤ 400) = false := decide_eq_false hn
    rw [hn1] at HL
    clear hn hn1
    go_enter Try.func7, Try.ntmps7
    go_wp2_with (first
      | (go_at_call 16; refine HL.out.mono ?_; rintro e w' ⟨rfl, hw'⟩; rw [hw']; clear hw' w')
      | (go_at_call 11; refine (awake_any _).mono ?_; rintro e w1 ⟨rfl, hb⟩; have HB := Lib.hid hb; clear hb))
    go_ret
    exact ⟨by simp, HB.out⟩
end Go.Proofs.Ytljalnfjneeieaa
