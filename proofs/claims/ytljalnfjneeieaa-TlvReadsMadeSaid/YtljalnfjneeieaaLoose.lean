/- made.Dice: Loose. -/
import Derived.Test.YtljalnfjneeieaaDice2
import Derived.Test.YtljalnfjneeieaaCodes
import Derived.Test.YtljalnfjneeieaaTlv5
namespace Go.Proofs.Ytljalnfjneeieaa
open Go.RowKit Go.Deep

/-- How long an encoding of any form can be. -/
def Ns.lmx : Ns → Nat
  | .nil => 0
  | .cons _ v k r => 12 + v.length + k.lmx + r.lmx
/-- l is the beginning of an encoding of L, R what is still to be written. -/
def LAcc (L : Ns) (l : List UInt8) (R : Ns) : Prop := ∀ rb, R.codes false rb → (l ++ rb).length ≤ 4096 → L.codes false (l ++ rb)
theorem LAcc.start (L : Ns) : LAcc L [] L := fun _ h _ => h
theorem LAcc.done {L : Ns} {l : List UInt8} (h : LAcc L l .nil) : l.length ≤ 4096 → L.codes false l := fun hl => by
  have := h [] rfl (by simpa using hl)
  simpa using this
theorem LAcc.step {L k r : Ns} {l v c h l' : List UInt8} {t : Int} (hA : LAcc L l (.cons t v k r)) (hc : if tagC t = true then (c.length ≤ 4096 → k.codes false c) else c = v) (hh : c.length ≤ 4096 → LenOk false (tagC t) h c.length) (e : l' = l ++ (tagB t ++ (h ++ c))) : LAcc L l' r := by
  subst e
  intro rb hrb hl
  have e : l ++ (tagB t ++ (h ++ c)) ++ rb = l ++ (tagB t ++ (h ++ (c ++ rb))) := by simp only [List.append_assoc]
  rw [e] at hl ⊢
  simp only [List.length_append] at hl
  refine hA _ ⟨h, c, rb, ?_, .inl ⟨hh (by omega), rfl⟩, hrb⟩ (by simp only [List.length_append]; omega)
  split
  · rename_i ht; rw [if_pos ht] at hc; exact hc (by omega)
  · rename_i ht; rw [if_neg ht] at hc; exact hc
theorem LAcc.indef {L k r : Ns} {l v c l' : List UInt8} {t : Int} (hA : LAcc L l (.cons t v k r)) (ht : tagC t = true) (hc : c.length ≤ 4096 → k.codes false c) (e : l' = l ++ (tagB t ++ 128 :: (c ++ [0, 0]))) : LAcc L l' r := by
  subst e
  intro rb hrb hl
  have e : l ++ (tagB t ++ 128 :: (c ++ [0, 0])) ++ rb = l ++ (tagB t ++ 128 :: (c ++ 0 :: 0 :: rb)) := by simp only [List.append_assoc, List.cons_append, List.nil_append]
  rw [e] at hl ⊢
  simp only [List.length_append, List.length_cons] at hl
  refine hA _ ⟨[], c, rb, ?_, .inr ⟨rfl, ht, rfl, rfl⟩, hrb⟩ (by simp only [List.length_append, List.length_cons]; omega)
  rw [if_pos ht]
  exact hc (by omega)
/-- Bytes that lie beside the row o and beside the dice. -/
abbrev BesP (w : World) (p : Nat) (o x : Value) (l : List UInt8) : Prop := BsS w (fun b => b < w.heap.size ∧ o.ownBlock ≠ some b ∧ b ≠ p) x l
theorem BesP.grew {w w' : World} {p base : Nat} {o o' x : Value} {l m : List UInt8} (h : BesP w p o x l) (hg : Grew w w' base o o' m) : BesP w' p o' x l :=
  h.keep fun b hs hl => ⟨hg.2.2.1.block b hl (fun e => hs.2.1 e.symm), Nat.lt_of_lt_of_le hl hg.2.2.1.size, fun e => (hg.2.2.2 b e).elim hs.2.1 fun h' => by omega, hs.2.2⟩
theorem BesP.call {B n : Nat} {w w' : World} {p : Nat} {o x : Value} {l : List UInt8} (h : BesP w p o x l) (hd : DiePost B w p n w') : BesP w' p o x l :=
  h.keep fun b hs hl => ⟨hd.2.block b hl (by intro e; injection e with e; exact hs.2.2 e), Nat.lt_of_lt_of_le hl hd.2.size, hs.2⟩
theorem BesP.alloc {w : World} {p : Nat} {o x : Value} {l : List UInt8} (h : BesP w p o x l) (y : Obj) : BesP (w.alloc y) p o x l :=
  h.keep fun b hs hl => ⟨Below.heap_alloc _ _ _ hl, by simp; omega, hs.2⟩
theorem BesP.old {w wi : World} {p base : Nat} {o x : Value} {m l : List UInt8} (hx : BsS w (fun b => b < w.heap.size ∧ b ≠ p) x l) (hg : w.grownBy wi (some p)) (ho : OwnB wi base o m) (hb : w.heap.size ≤ base) : BesP wi p o x l :=
  hx.keep fun b hs hl => ⟨hg.block b hl (by intro e; injection e with e; exact hs.2 e), Nat.lt_of_lt_of_le hl hg.size, fun e => by have := (ho.lt b e).1; omega, hs.2⟩
theorem BesP.new {B n : Nat} {wi wj : World} {p base : Nat} {o x : Value} {m l : List UInt8} (hx : BsS wj (New wi wj) x l) (ho : OwnB wi base o m) (hd : Die B wi p n) : BesP wj p o x l :=
  hx.keep fun b hs hl => ⟨rfl, hl, fun e => by have := (ho.lt b e).2; have := hs.1; omega, by have := hs.1; have := hd.lt; have := hd.le; omega⟩
theorem DRow.only {B : Nat} {w wi : World} {p n : Nat} {o : Value} {l : List UInt8} (h : DRow B w wi p n o l) : w.grownBy wi (some p) := h.2.1.2
theorem DRow.cell {B : Nat} {w wi : World} {p n : Nat} {o : Value} {l : List UInt8} (h : DRow B w wi p n o l) {b off : Nat} {u : Value} (hb : b < w.heap.size) (hp : b ≠ p) (hc : w.cell? ⟨b, off, none⟩ = some u) : wi.cell? ⟨b, off, none⟩ = some u :=
  (World.cell?_of_block (w := w) (a := ⟨b, off, none⟩) (h.only.block b hb (by intro e; injection e with e; exact hp e))).trans hc
theorem lit1 (w : World) (x : UInt8) (ty : TypeId) : BsS (w.alloc (.cells #[U8 x] ty)) (New w (w.alloc (.cells #[U8 x] ty))) (.slice (some ⟨w.heap.size, 0, none⟩) 1 1) [x] := lit_new w [x] ty (by simp) _ rfl
theorem lit80 (w : World) (ty : TypeId) : BsS (w.alloc (.cells #[.int .u8 128] ty)) (New w (w.alloc (.cells #[.int .u8 128] ty))) (.slice (some ⟨w.heap.size, 0, none⟩) 1 1) [128] := lit_new w [128] ty (by simp) _ rfl
theorem lit00 (w : World) (ty : TypeId) : BsS (w.alloc (.cells #[.int .u8 0, .int .u8 0] ty)) (New w (w.alloc (.cells #[.int .u8 0, .int .u8 0] ty))) (.slice (some ⟨w.heap.size, 0, none⟩) 2 2) [0, 0] := lit_new w [0, 0] ty (by simp) _ rfl
theorem lit81 (w : World) (x : UInt8) (ty : TypeId) : BsS (w.alloc (.cells #[.int .u8 129, U8 x] ty)) (New w (w.alloc (.cells #[.int .u8 129, U8 x] ty))) (.slice (some ⟨w.heap.size, 0, none⟩) 2 2) [129, x] := lit_new w [129, x] ty (by simp) _ rfl
theorem lit82 (w : World) (x y : UInt8) (ty : TypeId) : BsS (w.alloc (.cells #[.int .u8 130, U8 x, U8 y] ty)) (New w (w.alloc (.cells #[.int .u8 130, U8 x, U8 y] ty))) (.slice (some ⟨w.heap.size, 0, none⟩) 3 3) [130, x, y] := lit_new w [130, x, y] ty (by simp) _ rfl
theorem lit83 (w : World) (x y : UInt8) (ty : TypeId) : BsS (w.alloc (.cells #[.int .u8 131, .int .u8 0, U8 x, U8 y] ty)) (New w (w.alloc (.cells #[.int .u8 131, .int .u8 0, U8 x, U8 y] ty))) (.slice (some ⟨w.heap.size, 0, none⟩) 4 4) [131, 0, x, y] := lit_new w [131, 0, x, y] ty (by simp) _ rfl
theorem lit84 (w : World) (x y : UInt8) (ty : TypeId) : BsS (w.alloc (.cells #[.int .u8 132, .int .u8 0, .int .u8 0, U8 x, U8 y] ty)) (New w (w.alloc (.cells #[.int .u8 132, .int .u8 0, .int .u8 0, U8 x, U8 y] ty))) (.slice (some ⟨w.heap.size, 0, none⟩) 5 5) [132, 0, 0, x, y] := lit_new w [132, 0, 0, x, y] ty (by simp) _ rfl
set_option maxRecDepth 100000 in
set_option maxHeartbeats 40000000 in
theorem loose_any (m : Nat) : ∀ (L : Ns) (v : Value) (B p n : Nat) (w : World), L.all ≤ m → NsS w (fun b => b < w.heap.size ∧ b ≠ p) v L → L.lmx ≤ 1000000000000 → Die B w p n →
    Calls Try.prog 26 #[.pointer (some ⟨p, 0, none⟩), v] w fun e w' => ∃ v' l, e = .returned v' ∧ BsS w' (New w w') v' l ∧ l.length ≤ L.lmx ∧ (l.length ≤ 4096 → L.codes false l) ∧ DiePost B w p n w' := by
  induction m using Nat.strongRecOn with
  | ind m ih =>
    intro L v B p n w hm hv hmx hdie
    obtain ⟨a, cap, rfl, hlc, hcap, hlen, hcells⟩ := hv
    have hcap' : cap ≤ 9223372036854775807 := hcap
    obtain ⟨b, off, hb⟩ : ∃ b off, Hid (0 < L.len → a = some ⟨b, off, none⟩ ∧ (b < w.heap.size ∧ b ≠ p) ∧ NsAt w (fun b => b < w.heap.size ∧ b ≠ p) L b off) := by
      rcases Nat.eq_zero_or_pos L.len with h0 | h0
      · exact ⟨0, 0, fun h => by omega⟩
      · obtain ⟨b, off, h1, h2, h3, h4⟩ := hcells h0
        exact ⟨b, off, fun _ => ⟨h1, h2, h4⟩⟩
    have HD0 := Lib.hid (DRow.start hdie)
    clear hcells hcap hdie
    go_enter Try.func26, Try.ntmps26
    go_wp2_with fail
    go_loopg [5, 6] L.len (fun q o i wr => ∃ (R : Ns) (j : Nat) (l : List UInt8), R.len = q ∧ j + R.len = L.len ∧ i = .int .i64 j ∧ Hid (LAcc L l R) ∧ R.all ≤ m ∧ l.length + R.lmx ≤ L.lmx ∧
      NsAt w (fun b => b < w.heap.size ∧ b ≠ p) R b (off + j * 3) ∧ DRow B w wr p n o l)
    case atStart =>
      exact ⟨L, 0, [], rfl, by omega, rfl, LAcc.start L, hm, by simp, by rw [Nat.zero_mul, Nat.add_zero]; exact NsAt.zero hb.out, HD0.out⟩
    case round =>
      obtain ⟨R, j, l, rfl, hj, rfl, hacc, hRn, hlm, hat, hrow⟩ := hrel
      obtain ⟨oa, oc, rfl⟩ := hrow.own.form
      have H0 := Lib.hid hrow
      cases R with
      | nil =>
        simp only [Ns.len, Nat.add_zero] at hj
        subst hj
        simp only [Ns.lmx] at hlm
        clear hrow hat ih
        go_wp2_with fail
        go_ret
        exact ⟨_, l, rfl, H0.out.own.out (by omega) w (Nat.le_refl _), by omega, hacc.out.done, H0.out.2.1⟩
      | cons t v k r =>
        obtain ⟨h1, h2, ⟨x, h3, h4⟩, ⟨ka, kc, h5, h6, h7, h8x, h9⟩, h10⟩ := hat
        simp only [Ns.len] at hj
        simp only [Ns.all] at hRn
        simp only [Ns.lmx] at hlm
        have hlt : (j : Int) < L.len := by omega
        obtain ⟨rfl, ⟨hbl, hbp⟩, _⟩ := hb.out (by omega)
        obtain ⟨xa, xc, rfl⟩ := h4.form2
        have z0 := hrow.size
        have q0 := hrow.cell hbl hbp h1
        have HT1 := Lib.hid h1; have HT3 := Lib.hid h3; have HT5 := Lib.hid h5
        have Hc := Lib.hid (rcons_any t h2)
        have hkid : NsS w (fun b => b < w.heap.size ∧ b ≠ p) (.slice ka k.len kc) k := ⟨ka, kc, rfl, h6, h7, h8x, h9⟩
        have HK := Lib.hid (fun (w1 : World) (h : w.grownBy w1 (some p)) (hd : Die B w1 p n) => ih k.all (by omega) k (.slice ka k.len kc) B p n w1 (Nat.le_refl _) (hkid.keep fun b hs hl => ⟨h.block b hl (by intro e; injection e with e; exact hs.2 e), Nat.lt_of_lt_of_le hl h.size, hs.2⟩) (by omega) hd)
        have HX := Lib.hid h4; have H10 := Lib.hid h10
        clear hrow hkid h1 h3 h4 h5 h9 h10 ih
        cases ec : tagC t with
        | true =>
          rw [ec] at Hc
          by_cases hb255 : 255 < t
          · skip
            have T := Lib.hid (show tagB t = [ofI (t / 256), ofI t] by unfold tagB; rw [if_pos hb255])
            have d255 : decide (t > 255) = true := decide_eq_true hb255
            have TC := Lib.hid ec
            clear ec hb255
            go_upto_region 18 with (first
              | (go_at_call 15; refine (Hc.out _).mono ?_; rintro e w9 ⟨rfl, hw9⟩; rw [hw9]; clear hw9 w9)
              | (at_builtin; (with_reducible refine wpList_push1 rfl (.tmp 24) (.tmp 28) rfl w.heap.size (.slice oa l.length oc) l rfl H0.out.own (ofI (t / 256)) _ wr.heap.size rfl rfl (by omega) z0 ?_); intro v1 w1 hgr; obtain ⟨l1, E1, k1⟩ := nameL (l ++ [ofI (t / 256)]) (l.length + 1) (by simp); rw [E1.out] at hgr; have H1 := Lib.hid (H0.out.grew hgr); obtain ⟨a1, c1, rfl⟩ := H1.out.own.form; have z1 := H1.out.size; clear hgr)
              | (at_builtin; (with_reducible refine wpList_push1 rfl (.tmp 30) (.tmp 33) rfl w.heap.size (.slice a1 l1.length c1) l1 rfl H1.out.own (ofI t) _ w1.heap.size rfl rfl (by omega) z1 ?_); intro v3 w3 hgr; obtain ⟨l3, E3, k3⟩ := nameL (l1 ++ [ofI t]) (l1.length + 1) (by simp); rw [E3.out] at hgr; have H3 := Lib.hid (H1.out.grew hgr); obtain ⟨a3, c3, rfl⟩ := H3.out.own.form; have z3 := H3.out.size; have q3a := H3.out.cell hbl hbp HT3.out; have q3b := H3.out.cell hbl hbp HT5.out; clear hgr)
              | (go_at_call 26; refine (HK.out _ H3.out.only H3.out.die).mono ?_; rintro e w31 ⟨cv, c, rfl, hcv, hcl, hcc, hd⟩; obtain ⟨ca, cc, rfl⟩ := hcv.form2; have H31 := Lib.hid (H3.out.call hd); have C31 := Lib.hid (BesP.new hcv H3.out.own H3.out.die); have HC0 := Lib.hid hcc; clear hcv hcc hd)
              | (go_at_call 39; refine (next_any B p n 6 _ H31.out.die (by decide) (by decide)).mono ?_; rintro e w4 ⟨z, rfl, hz, hd⟩; have H4 := Lib.hid (H31.out.call hd); have C4 := Lib.hid (C31.out.call hd); have z4 := H4.out.size; clear hd))
            have L3 : Hid (l3 = l ++ tagB t) := by show _ = _; rw [T.out, ← E3.out, ← E1.out]; simp only [List.append_assoc, List.cons_append, List.nil_append]
            have HCC : Hid (if tagC t = true then (c.length ≤ 4096 → k.codes false c) else c = v) := by show ite _ _ _; rw [if_pos TC.out]; exact HC0.out
            clear Hc HK T H0 H31 C31
            obtain rfl | rfl | rfl | rfl | rfl | rfl : z = 0 ∨ z = 1 ∨ z = 2 ∨ z = 3 ∨ z = 4 ∨ z = 5 := by omega
            · by_cases hnb : c.length < 128
              · have NB := Lib.hid hnb
                have d1 : decide ((c.length : Int) < 128) = true := decide_eq_true (by omega)
                clear hnb
                go_wp2_with (first
                  | (at_builtin; (with_reducible refine wpList_more rfl (.tmp 56) (.tmp 59) rfl w.heap.size (.slice a3 l3.length c3) l3 rfl (H4.out.alloc _).own (some ⟨w4.heap.size, 0, none⟩) 1 1 ([ofI (c.length : Int)]) _ rfl (lit1 w4 _ _) (by simp; omega) (by simp; omega) ?_); intro v5 w5 hgr; obtain ⟨l5, E5, k5⟩ := nameL (l3 ++ ([ofI (c.length : Int)])) (l3.length + 1) (by simp); rw [E5.out] at hgr; have H5 := Lib.hid ((H4.out.alloc _).grew hgr); have C5 := Lib.hid ((C4.out.alloc _).grew hgr); obtain ⟨a5, c5, rfl⟩ := H5.out.own.form; have z5 := H5.out.size; clear hgr)
                  | (at_builtin; (with_reducible refine wpList_more rfl (.tmp 126) (.tmp 127) rfl w.heap.size (.slice a5 l5.length c5) l5 rfl H5.out.own (ca) c.length cc (c) _ rfl C5.out (by omega) z5 ?_); intro v6 w6 hgr; obtain ⟨l6, E6, k6⟩ := nameL (l5 ++ (c)) (l5.length + c.length) (by simp); rw [E6.out] at hgr; have H6 := Lib.hid (H5.out.grew hgr); clear hgr))
                go_roundg r.len
                case measure => simp [Ns.len]
                case rel =>
                  refine ⟨r, j + 1, _, rfl, by omega, by go_num, ?_, by omega, by omega, by rw [Nat.add_mul, ← Nat.add_assoc]; exact H10.out, H6.out⟩
                  refine hacc.out.step HCC.out (h := [ofI (c.length : Int)]) (fun h => len1 false _ NB.out) ?_
                  rw [← E6.out, ← E5.out, L3.out]; simp only [List.append_assoc, List.cons_append, List.nil_append]
              · have d1 : decide ((c.length : Int) < 128) = false := decide_eq_false (by omega)
                clear hnb
                go_wp2_with (first
                  | (at_builtin; (with_reducible refine wpList_more rfl (.tmp 61) (.tmp 67) rfl w.heap.size (.slice a3 l3.length c3) l3 rfl (H4.out.alloc _).own (some ⟨w4.heap.size, 0, none⟩) 3 3 ([130, ofI ((c.length : Int) / 256), ofI (c.length : Int)]) _ rfl (lit82 w4 _ _ _) (by simp; omega) (by simp; omega) ?_); intro v5 w5 hgr; obtain ⟨l5, E5, k5⟩ := nameL (l3 ++ ([130, ofI ((c.length : Int) / 256), ofI (c.length : Int)])) (l3.length + 3) (by simp); rw [E5.out] at hgr; have H5 := Lib.hid ((H4.out.alloc _).grew hgr); have C5 := Lib.hid ((C4.out.alloc _).grew hgr); obtain ⟨a5, c5, rfl⟩ := H5.out.own.form; have z5 := H5.out.size; clear hgr)
                  | (at_builtin; (with_reducible refine wpList_more rfl (.tmp 126) (.tmp 127) rfl w.heap.size (.slice a5 l5.length c5) l5 rfl H5.out.own (ca) c.length cc (c) _ rfl C5.out (by omega) z5 ?_); intro v6 w6 hgr; obtain ⟨l6, E6, k6⟩ := nameL (l5 ++ (c)) (l5.length + c.length) (by simp); rw [E6.out] at hgr; have H6 := Lib.hid (H5.out.grew hgr); clear hgr))
                go_roundg r.len
                case measure => simp [Ns.len]
                case rel =>
                  refine ⟨r, j + 1, _, rfl, by omega, by go_num, ?_, by omega, by omega, by rw [Nat.add_mul, ← Nat.add_assoc]; exact H10.out, H6.out⟩
                  refine hacc.out.step HCC.out (h := [130, ofI ((c.length : Int) / 256), ofI (c.length : Int)]) (fun h => len3 false _ (by omega) (fun h => by cases h)) ?_
                  rw [← E6.out, ← E5.out, L3.out]; simp only [List.append_assoc, List.cons_append, List.nil_append]
            · skip
              go_wp2_with (first
                | (at_builtin; (with_reducible refine wpList_more rfl (.tmp 71) (.tmp 77) rfl w.heap.size (.slice a3 l3.length c3) l3 rfl (H4.out.alloc _).own (some ⟨w4.heap.size, 0, none⟩) 4 4 ([131, 0, ofI ((c.length : Int) / 256), ofI (c.length : Int)]) _ rfl (lit83 w4 _ _ _) (by simp; omega) (by simp; omega) ?_); intro v5 w5 hgr; obtain ⟨l5, E5, k5⟩ := nameL (l3 ++ ([131, 0, ofI ((c.length : Int) / 256), ofI (c.length : Int)])) (l3.length + 4) (by simp); rw [E5.out] at hgr; have H5 := Lib.hid ((H4.out.alloc _).grew hgr); have C5 := Lib.hid ((C4.out.alloc _).grew hgr); obtain ⟨a5, c5, rfl⟩ := H5.out.own.form; have z5 := H5.out.size; clear hgr)
                | (at_builtin; (with_reducible refine wpList_more rfl (.tmp 126) (.tmp 127) rfl w.heap.size (.slice a5 l5.length c5) l5 rfl H5.out.own (ca) c.length cc (c) _ rfl C5.out (by omega) z5 ?_); intro v6 w6 hgr; obtain ⟨l6, E6, k6⟩ := nameL (l5 ++ (c)) (l5.length + c.length) (by simp); rw [E6.out] at hgr; have H6 := Lib.hid (H5.out.grew hgr); clear hgr))
              go_roundg r.len
              case measure => simp [Ns.len]
              case rel =>
                refine ⟨r, j + 1, _, rfl, by omega, by go_num, ?_, by omega, by omega, by rw [Nat.add_mul, ← Nat.add_assoc]; exact H10.out, H6.out⟩
                refine hacc.out.step HCC.out (h := [131, 0, ofI ((c.length : Int) / 256), ofI (c.length : Int)]) (fun h => len4 _ (by omega)) ?_
                rw [← E6.out, ← E5.out, L3.out]; simp only [List.append_assoc, List.cons_append, List.nil_append]
            · skip
              go_wp2_with (first
                | (at_builtin; (with_reducible refine wpList_more rfl (.tmp 81) (.tmp 87) rfl w.heap.size (.slice a3 l3.length c3) l3 rfl (H4.out.alloc _).own (some ⟨w4.heap.size, 0, none⟩) 5 5 ([132, 0, 0, ofI ((c.length : Int) / 256), ofI (c.length : Int)]) _ rfl (lit84 w4 _ _ _) (by simp; omega) (by simp; omega) ?_); intro v5 w5 hgr; obtain ⟨l5, E5, k5⟩ := nameL (l3 ++ ([132, 0, 0, ofI ((c.length : Int) / 256), ofI (c.length : Int)])) (l3.length + 5) (by simp); rw [E5.out] at hgr; have H5 := Lib.hid ((H4.out.alloc _).grew hgr); have C5 := Lib.hid ((C4.out.alloc _).grew hgr); obtain ⟨a5, c5, rfl⟩ := H5.out.own.form; have z5 := H5.out.size; clear hgr)
                | (at_builtin; (with_reducible refine wpList_more rfl (.tmp 126) (.tmp 127) rfl w.heap.size (.slice a5 l5.length c5) l5 rfl H5.out.own (ca) c.length cc (c) _ rfl C5.out (by omega) z5 ?_); intro v6 w6 hgr; obtain ⟨l6, E6, k6⟩ := nameL (l5 ++ (c)) (l5.length + c.length) (by simp); rw [E6.out] at hgr; have H6 := Lib.hid (H5.out.grew hgr); clear hgr))
              go_roundg r.len
              case measure => simp [Ns.len]
              case rel =>
                refine ⟨r, j + 1, _, rfl, by omega, by go_num, ?_, by omega, by omega, by rw [Nat.add_mul, ← Nat.add_assoc]; exact H10.out, H6.out⟩
                refine hacc.out.step HCC.out (h := [132, 0, 0, ofI ((c.length : Int) / 256), ofI (c.length : Int)]) (fun h => len5 _ (by omega)) ?_
                rw [← E6.out, ← E5.out, L3.out]; simp only [List.append_assoc, List.cons_append, List.nil_append]
            · skip
              go_wp2_with (first
                | (at_builtin; (with_reducible refine wpList_more rfl (.tmp 92) (.tmp 93) rfl w.heap.size (.slice a3 l3.length c3) l3 rfl (H4.out.alloc _).own (some ⟨w4.heap.size, 0, none⟩) 1 1 ([128]) _ rfl (lit80 w4 _) (by simp; omega) (by simp; omega) ?_); intro v5 w5 hgr; obtain ⟨l5, E5, k5⟩ := nameL (l3 ++ ([128])) (l3.length + 1) (by simp); rw [E5.out] at hgr; have H5 := Lib.hid ((H4.out.alloc _).grew hgr); have C5 := Lib.hid ((C4.out.alloc _).grew hgr); obtain ⟨a5, c5, rfl⟩ := H5.out.own.form; have z5 := H5.out.size; clear hgr)
                | (at_builtin; (with_reducible refine wpList_more rfl (.tmp 95) (.tmp 96) rfl w.heap.size (.slice a5 l5.length c5) l5 rfl H5.out.own (ca) c.length cc (c) _ rfl C5.out (by omega) z5 ?_); intro v6 w6 hgr; obtain ⟨l6, E6, k6⟩ := nameL (l5 ++ (c)) (l5.length + c.length) (by simp); rw [E6.out] at hgr; have H6 := Lib.hid (H5.out.grew hgr); have C6 := Lib.hid (C5.out.grew hgr); obtain ⟨a6, c6, rfl⟩ := H6.out.own.form; have z6 := H6.out.size; clear hgr)
                | (at_builtin; (with_reducible refine wpList_more rfl (.tmp 98) (.tmp 99) rfl w.heap.size (.slice a6 l6.length c6) l6 rfl (H6.out.alloc _).own (some ⟨w6.heap.size, 0, none⟩) 2 2 ([0, 0]) _ rfl (lit00 w6 _) (by simp; omega) (by simp; omega) ?_); intro v7 w7 hgr; obtain ⟨l7, E7, k7⟩ := nameL (l6 ++ ([0, 0])) (l6.length + 2) (by simp); rw [E7.out] at hgr; have H7 := Lib.hid ((H6.out.alloc _).grew hgr); clear hgr))
              go_roundg r.len
              case measure => simp [Ns.len]
              case rel =>
                refine ⟨r, j + 1, _, rfl, by omega, by go_num, ?_, by omega, by omega, by rw [Nat.add_mul, ← Nat.add_assoc]; exact H10.out, H7.out⟩
                refine hacc.out.indef TC.out HC0.out ?_
                rw [← E7.out, ← E6.out, ← E5.out, L3.out]; simp only [List.append_assoc, List.cons_append, List.nil_append]
            · by_cases hnb : c.length < 256
              · have NB := Lib.hid hnb
                have d1 : decide ((c.length : Int) < 256) = true := decide_eq_true (by omega)
                clear hnb
                go_wp2_with (first
                  | (at_builtin; (with_reducible refine wpList_more rfl (.tmp 113) (.tmp 116) rfl w.heap.size (.slice a3 l3.length c3) l3 rfl (H4.out.alloc _).own (some ⟨w4.heap.size, 0, none⟩) 2 2 ([129, ofI (c.length : Int)]) _ rfl (lit81 w4 _ _) (by simp; omega) (by simp; omega) ?_); intro v5 w5 hgr; obtain ⟨l5, E5, k5⟩ := nameL (l3 ++ ([129, ofI (c.length : Int)])) (l3.length + 2) (by simp); rw [E5.out] at hgr; have H5 := Lib.hid ((H4.out.alloc _).grew hgr); have C5 := Lib.hid ((C4.out.alloc _).grew hgr); obtain ⟨a5, c5, rfl⟩ := H5.out.own.form; have z5 := H5.out.size; clear hgr)
                  | (at_builtin; (with_reducible refine wpList_more rfl (.tmp 126) (.tmp 127) rfl w.heap.size (.slice a5 l5.length c5) l5 rfl H5.out.own (ca) c.length cc (c) _ rfl C5.out (by omega) z5 ?_); intro v6 w6 hgr; obtain ⟨l6, E6, k6⟩ := nameL (l5 ++ (c)) (l5.length + c.length) (by simp); rw [E6.out] at hgr; have H6 := Lib.hid (H5.out.grew hgr); clear hgr))
                go_roundg r.len
                case measure => simp [Ns.len]
                case rel =>
                  refine ⟨r, j + 1, _, rfl, by omega, by go_num, ?_, by omega, by omega, by rw [Nat.add_mul, ← Nat.add_assoc]; exact H10.out, H6.out⟩
                  refine hacc.out.step HCC.out (h := [129, ofI (c.length : Int)]) (fun h => len2 false _ NB.out (fun h => by cases h)) ?_
                  rw [← E6.out, ← E5.out, L3.out]; simp only [List.append_assoc, List.cons_append, List.nil_append]
              · have d1 : decide ((c.length : Int) < 256) = false := decide_eq_false (by omega)
                clear hnb
                go_wp2_with (first
                  | (at_builtin; (with_reducible refine wpList_more rfl (.tmp 118) (.tmp 124) rfl w.heap.size (.slice a3 l3.length c3) l3 rfl (H4.out.alloc _).own (some ⟨w4.heap.size, 0, none⟩) 3 3 ([130, ofI ((c.length : Int) / 256), ofI (c.length : Int)]) _ rfl (lit82 w4 _ _ _) (by simp; omega) (by simp; omega) ?_); intro v5 w5 hgr; obtain ⟨l5, E5, k5⟩ := nameL (l3 ++ ([130, ofI ((c.length : Int) / 256), ofI (c.length : Int)])) (l3.length + 3) (by simp); rw [E5.out] at hgr; have H5 := Lib.hid ((H4.out.alloc _).grew hgr); have C5 := Lib.hid ((C4.out.alloc _).grew hgr); obtain ⟨a5, c5, rfl⟩ := H5.out.own.form; have z5 := H5.out.size; clear hgr)
                  | (at_builtin; (with_reducible refine wpList_more rfl (.tmp 126) (.tmp 127) rfl w.heap.size (.slice a5 l5.length c5) l5 rfl H5.out.own (ca) c.length cc (c) _ rfl C5.out (by omega) z5 ?_); intro v6 w6 hgr; obtain ⟨l6, E6, k6⟩ := nameL (l5 ++ (c)) (l5.length + c.length) (by simp); rw [E6.out] at hgr; have H6 := Lib.hid (H5.out.grew hgr); clear hgr))
                go_roundg r.len
                case measure => simp [Ns.len]
                case rel =>
                  refine ⟨r, j + 1, _, rfl, by omega, by go_num, ?_, by omega, by omega, by rw [Nat.add_mul, ← Nat.add_assoc]; exact H10.out, H6.out⟩
                  refine hacc.out.step HCC.out (h := [130, ofI ((c.length : Int) / 256), ofI (c.length : Int)]) (fun h => len3 false _ (by omega) (fun h => by cases h)) ?_
                  rw [← E6.out, ← E5.out, L3.out]; simp only [List.append_assoc, List.cons_append, List.nil_append]
            · by_cases hnb : c.length < 128
              · have NB := Lib.hid hnb
                have d1 : decide ((c.length : Int) < 128) = true := decide_eq_true (by omega)
                clear hnb
                go_wp2_with (first
                  | (at_builtin; (with_reducible refine wpList_more rfl (.tmp 56) (.tmp 59) rfl w.heap.size (.slice a3 l3.length c3) l3 rfl (H4.out.alloc _).own (some ⟨w4.heap.size, 0, none⟩) 1 1 ([ofI (c.length : Int)]) _ rfl (lit1 w4 _ _) (by simp; omega) (by simp; omega) ?_); intro v5 w5 hgr; obtain ⟨l5, E5, k5⟩ := nameL (l3 ++ ([ofI (c.length : Int)])) (l3.length + 1) (by simp); rw [E5.out] at hgr; have H5 := Lib.hid ((H4.out.alloc _).grew hgr); have C5 := Lib.hid ((C4.out.alloc _).grew hgr); obtain ⟨a5, c5, rfl⟩ := H5.out.own.form; have z5 := H5.out.size; clear hgr)
                  | (at_builtin; (with_reducible refine wpList_more rfl (.tmp 126) (.tmp 127) rfl w.heap.size (.slice a5 l5.length c5) l5 rfl H5.out.own (ca) c.length cc (c) _ rfl C5.out (by omega) z5 ?_); intro v6 w6 hgr; obtain ⟨l6, E6, k6⟩ := nameL (l5 ++ (c)) (l5.length + c.length) (by simp); rw [E6.out] at hgr; have H6 := Lib.hid (H5.out.grew hgr); clear hgr))
                go_roundg r.len
                case measure => simp [Ns.len]
                case rel =>
                  refine ⟨r, j + 1, _, rfl, by omega, by go_num, ?_, by omega, by omega, by rw [Nat.add_mul, ← Nat.add_assoc]; exact H10.out, H6.out⟩
                  refine hacc.out.step HCC.out (h := [ofI (c.length : Int)]) (fun h => len1 false _ NB.out) ?_
                  rw [← E6.out, ← E5.out, L3.out]; simp only [List.append_assoc, List.cons_append, List.nil_append]
              · have d1 : decide ((c.length : Int) < 128) = false := decide_eq_false (by omega)
                clear hnb
                go_wp2_with (first
                  | (at_builtin; (with_reducible refine wpList_more rfl (.tmp 61) (.tmp 67) rfl w.heap.size (.slice a3 l3.length c3) l3 rfl (H4.out.alloc _).own (some ⟨w4.heap.size, 0, none⟩) 3 3 ([130, ofI ((c.length : Int) / 256), ofI (c.length : Int)]) _ rfl (lit82 w4 _ _ _) (by simp; omega) (by simp; omega) ?_); intro v5 w5 hgr; obtain ⟨l5, E5, k5⟩ := nameL (l3 ++ ([130, ofI ((c.length : Int) / 256), ofI (c.length : Int)])) (l3.length + 3) (by simp); rw [E5.out] at hgr; have H5 := Lib.hid ((H4.out.alloc _).grew hgr); have C5 := Lib.hid ((C4.out.alloc _).grew hgr); obtain ⟨a5, c5, rfl⟩ := H5.out.own.form; have z5 := H5.out.size; clear hgr)
                  | (at_builtin; (with_reducible refine wpList_more rfl (.tmp 126) (.tmp 127) rfl w.heap.size (.slice a5 l5.length c5) l5 rfl H5.out.own (ca) c.length cc (c) _ rfl C5.out (by omega) z5 ?_); intro v6 w6 hgr; obtain ⟨l6, E6, k6⟩ := nameL (l5 ++ (c)) (l5.length + c.length) (by simp); rw [E6.out] at hgr; have H6 := Lib.hid (H5.out.grew hgr); clear hgr))
                go_roundg r.len
                case measure => simp [Ns.len]
                case rel =>
                  refine ⟨r, j + 1, _, rfl, by omega, by go_num, ?_, by omega, by omega, by rw [Nat.add_mul, ← Nat.add_assoc]; exact H10.out, H6.out⟩
                  refine hacc.out.step HCC.out (h := [130, ofI ((c.length : Int) / 256), ofI (c.length : Int)]) (fun h => len3 false _ (by omega) (fun h => by cases h)) ?_
                  rw [← E6.out, ← E5.out, L3.out]; simp only [List.append_assoc, List.cons_append, List.nil_append]
          · skip
            have T := Lib.hid (show tagB t = [ofI t] by unfold tagB; rw [if_neg hb255])
            have d255 : decide (t > 255) = false := decide_eq_false hb255
            have TC := Lib.hid ec
            clear ec hb255
            go_upto_region 18 with (first
              | (go_at_call 15; refine (Hc.out _).mono ?_; rintro e w9 ⟨rfl, hw9⟩; rw [hw9]; clear hw9 w9)
              | (at_builtin; (with_reducible refine wpList_push1 rfl (.tmp 30) (.tmp 33) rfl w.heap.size (.slice oa l.length oc) l rfl H0.out.own (ofI t) _ wr.heap.size rfl rfl (by omega) z0 ?_); intro v3 w3 hgr; obtain ⟨l3, E3, k3⟩ := nameL (l ++ [ofI t]) (l.length + 1) (by simp); rw [E3.out] at hgr; have H3 := Lib.hid (H0.out.grew hgr); obtain ⟨a3, c3, rfl⟩ := H3.out.own.form; have z3 := H3.out.size; have q3a := H3.out.cell hbl hbp HT3.out; have q3b := H3.out.cell hbl hbp HT5.out; clear hgr)
              | (go_at_call 26; refine (HK.out _ H3.out.only H3.out.die).mono ?_; rintro e w31 ⟨cv, c, rfl, hcv, hcl, hcc, hd⟩; obtain ⟨ca, cc, rfl⟩ := hcv.form2; have H31 := Lib.hid (H3.out.call hd); have C31 := Lib.hid (BesP.new hcv H3.out.own H3.out.die); have HC0 := Lib.hid hcc; clear hcv hcc hd)
              | (go_at_call 39; refine (next_any B p n 6 _ H31.out.die (by decide) (by decide)).mono ?_; rintro e w4 ⟨z, rfl, hz, hd⟩; have H4 := Lib.hid (H31.out.call hd); have C4 := Lib.hid (C31.out.call hd); have z4 := H4.out.size; clear hd))
            have L3 : Hid (l3 = l ++ tagB t) := by show _ = _; rw [T.out, ← E3.out]
            have HCC : Hid (if tagC t = true then (c.length ≤ 4096 → k.codes false c) else c = v) := by show ite _ _ _; rw [if_pos TC.out]; exact HC0.out
            clear Hc HK T H0 H31 C31
            obtain rfl | rfl | rfl | rfl | rfl | rfl : z = 0 ∨ z = 1 ∨ z = 2 ∨ z = 3 ∨ z = 4 ∨ z = 5 := by omega
            · by_cases hnb : c.length < 128
              · have NB := Lib.hid hnb
                have d1 : decide ((c.length : Int) < 128) = true := decide_eq_true (by omega)
                clear hnb
                go_wp2_with (first
                  | (at_builtin; (with_reducible refine wpList_more rfl (.tmp 56) (.tmp 59) rfl w.heap.size (.slice a3 l3.length c3) l3 rfl (H4.out.alloc _).own (some ⟨w4.heap.size, 0, none⟩) 1 1 ([ofI (c.length : Int)]) _ rfl (lit1 w4 _ _) (by simp; omega) (by simp; omega) ?_); intro v5 w5 hgr; obtain ⟨l5, E5, k5⟩ := nameL (l3 ++ ([ofI (c.length : Int)])) (l3.length + 1) (by simp); rw [E5.out] at hgr; have H5 := Lib.hid ((H4.out.alloc _).grew hgr); have C5 := Lib.hid ((C4.out.alloc _).grew hgr); obtain ⟨a5, c5, rfl⟩ := H5.out.own.form; have z5 := H5.out.size; clear hgr)
                  | (at_builtin; (with_reducible refine wpList_more rfl (.tmp 126) (.tmp 127) rfl w.heap.size (.slice a5 l5.length c5) l5 rfl H5.out.own (ca) c.length cc (c) _ rfl C5.out (by omega) z5 ?_); intro v6 w6 hgr; obtain ⟨l6, E6, k6⟩ := nameL (l5 ++ (c)) (l5.length + c.length) (by simp); rw [E6.out] at hgr; have H6 := Lib.hid (H5.out.grew hgr); clear hgr))
                go_roundg r.len
                case measure => simp [Ns.len]
                case rel =>
                  refine ⟨r, j + 1, _, rfl, by omega, by go_num, ?_, by omega, by omega, by rw [Nat.add_mul, ← Nat.add_assoc]; exact H10.out, H6.out⟩
                  refine hacc.out.step HCC.out (h := [ofI (c.length : Int)]) (fun h => len1 false _ NB.out) ?_
                  rw [← E6.out, ← E5.out, L3.out]; simp only [List.append_assoc, List.cons_append, List.nil_append]
              · have d1 : decide ((c.length : Int) < 128) = false := decide_eq_false (by omega)
                clear hnb
                go_wp2_with (first
                  | (at_builtin; (with_reducible refine wpList_more rfl (.tmp 61) (.tmp 67) rfl w.heap.size (.slice a3 l3.length c3) l3 rfl (H4.out.alloc _).own (some ⟨w4.heap.size, 0, none⟩) 3 3 ([130, ofI ((c.length : Int) / 256), ofI (c.length : Int)]) _ rfl (lit82 w4 _ _ _) (by simp; omega) (by simp; omega) ?_); intro v5 w5 hgr; obtain ⟨l5, E5, k5⟩ := nameL (l3 ++ ([130, ofI ((c.length : Int) / 256), ofI (c.length : Int)])) (l3.length + 3) (by simp); rw [E5.out] at hgr; have H5 := Lib.hid ((H4.out.alloc _).grew hgr); have C5 := Lib.hid ((C4.out.alloc _).grew hgr); obtain ⟨a5, c5, rfl⟩ := H5.out.own.form; have z5 := H5.out.size; clear hgr)
                  | (at_builtin; (with_reducible refine wpList_more rfl (.tmp 126) (.tmp 127) rfl w.heap.size (.slice a5 l5.length c5) l5 rfl H5.out.own (ca) c.length cc (c) _ rfl C5.out (by omega) z5 ?_); intro v6 w6 hgr; obtain ⟨l6, E6, k6⟩ := nameL (l5 ++ (c)) (l5.length + c.length) (by simp); rw [E6.out] at hgr; have H6 := Lib.hid (H5.out.grew hgr); clear hgr))
                go_roundg r.len
                case measure => simp [Ns.len]
                case rel =>
                  refine ⟨r, j + 1, _, rfl, by omega, by go_num, ?_, by omega, by omega, by rw [Nat.add_mul, ← Nat.add_assoc]; exact H10.out, H6.out⟩
                  refine hacc.out.step HCC.out (h := [130, ofI ((c.length : Int) / 256), ofI (c.length : Int)]) (fun h => len3 false _ (by omega) (fun h => by cases h)) ?_
                  rw [← E6.out, ← E5.out, L3.out]; simp only [List.append_assoc, List.cons_append, List.nil_append]
            · skip
              go_wp2_with (first
                | (at_builtin; (with_reducible refine wpList_more rfl (.tmp 71) (.tmp 77) rfl w.heap.size (.slice a3 l3.length c3) l3 rfl (H4.out.alloc _).own (some ⟨w4.heap.size, 0, none⟩) 4 4 ([131, 0, ofI ((c.length : Int) / 256), ofI (c.length : Int)]) _ rfl (lit83 w4 _ _ _) (by simp; omega) (by simp; omega) ?_); intro v5 w5 hgr; obtain ⟨l5, E5, k5⟩ := nameL (l3 ++ ([131, 0, ofI ((c.length : Int) / 256), ofI (c.length : Int)])) (l3.length + 4) (by simp); rw [E5.out] at hgr; have H5 := Lib.hid ((H4.out.alloc _).grew hgr); have C5 := Lib.hid ((C4.out.alloc _).grew hgr); obtain ⟨a5, c5, rfl⟩ := H5.out.own.form; have z5 := H5.out.size; clear hgr)
                | (at_builtin; (with_reducible refine wpList_more rfl (.tmp 126) (.tmp 127) rfl w.heap.size (.slice a5 l5.length c5) l5 rfl H5.out.own (ca) c.length cc (c) _ rfl C5.out (by omega) z5 ?_); intro v6 w6 hgr; obtain ⟨l6, E6, k6⟩ := nameL (l5 ++ (c)) (l5.length + c.length) (by simp); rw [E6.out] at hgr; have H6 := Lib.hid (H5.out.grew hgr); clear hgr))
              go_roundg r.len
              case measure => simp [Ns.len]
              case rel =>
                refine ⟨r, j + 1, _, rfl, by omega, by go_num, ?_, by omega, by omega, by rw [Nat.add_mul, ← Nat.add_assoc]; exact H10.out, H6.out⟩
                refine hacc.out.step HCC.out (h := [131, 0, ofI ((c.length : Int) / 256), ofI (c.length : Int)]) (fun h => len4 _ (by omega)) ?_
                rw [← E6.out, ← E5.out, L3.out]; simp only [List.append_assoc, List.cons_append, List.nil_append]
            · skip
              go_wp2_with (first
                | (at_builtin; (with_reducible refine wpList_more rfl (.tmp 81) (.tmp 87) rfl w.heap.size (.slice a3 l3.length c3) l3 rfl (H4.out.alloc _).own (some ⟨w4.heap.size, 0, none⟩) 5 5 ([132, 0, 0, ofI ((c.length : Int) / 256), ofI (c.length : Int)]) _ rfl (lit84 w4 _ _ _) (by simp; omega) (by simp; omega) ?_); intro v5 w5 hgr; obtain ⟨l5, E5, k5⟩ := nameL (l3 ++ ([132, 0, 0, ofI ((c.length : Int) / 256), ofI (c.length : Int)])) (l3.length + 5) (by simp); rw [E5.out] at hgr; have H5 := Lib.hid ((H4.out.alloc _).grew hgr); have C5 := Lib.hid ((C4.out.alloc _).grew hgr); obtain ⟨a5, c5, rfl⟩ := H5.out.own.form; have z5 := H5.out.size; clear hgr)
                | (at_builtin; (with_reducible refine wpList_more rfl (.tmp 126) (.tmp 127) rfl w.heap.size (.slice a5 l5.length c5) l5 rfl H5.out.own (ca) c.length cc (c) _ rfl C5.out (by omega) z5 ?_); intro v6 w6 hgr; obtain ⟨l6, E6, k6⟩ := nameL (l5 ++ (c)) (l5.length + c.length) (by simp); rw [E6.out] at hgr; have H6 := Lib.hid (H5.out.grew hgr); clear hgr))
              go_roundg r.len
              case measure => simp [Ns.len]
              case rel =>
                refine ⟨r, j + 1, _, rfl, by omega, by go_num, ?_, by omega, by omega, by rw [Nat.add_mul, ← Nat.add_assoc]; exact H10.out, H6.out⟩
                refine hacc.out.step HCC.out (h := [132, 0, 0, ofI ((c.length : Int) / 256), ofI (c.length : Int)]) (fun h => len5 _ (by omega)) ?_
                rw [← E6.out, ← E5.out, L3.out]; simp only [List.append_assoc, List.cons_append, List.nil_append]
            · skip
              go_wp2_with (first
                | (at_builtin; (with_reducible refine wpList_more rfl (.tmp 92) (.tmp 93) rfl w.heap.size (.slice a3 l3.length c3) l3 rfl (H4.out.alloc _).own (some ⟨w4.heap.size, 0, none⟩) 1 1 ([128]) _ rfl (lit80 w4 _) (by simp; omega) (by simp; omega) ?_); intro v5 w5 hgr; obtain ⟨l5, E5, k5⟩ := nameL (l3 ++ ([128])) (l3.length + 1) (by simp); rw [E5.out] at hgr; have H5 := Lib.hid ((H4.out.alloc _).grew hgr); have C5 := Lib.hid ((C4.out.alloc _).grew hgr); obtain ⟨a5, c5, rfl⟩ := H5.out.own.form; have z5 := H5.out.size; clear hgr)
                | (at_builtin; (with_reducible refine wpList_more rfl (.tmp 95) (.tmp 96) rfl w.heap.size (.slice a5 l5.length c5) l5 rfl H5.out.own (ca) c.length cc (c) _ rfl C5.out (by omega) z5 ?_); intro v6 w6 hgr; obtain ⟨l6, E6, k6⟩ := nameL (l5 ++ (c)) (l5.length + c.length) (by simp); rw [E6.out] at hgr; have H6 := Lib.hid (H5.out.grew hgr); have C6 := Lib.hid (C5.out.grew hgr); obtain ⟨a6, c6, rfl⟩ := H6.out.own.form; have z6 := H6.out.size; clear hgr)
                | (at_builtin; (with_reducible refine wpList_more rfl (.tmp 98) (.tmp 99) rfl w.heap.size (.slice a6 l6.length c6) l6 rfl (H6.out.alloc _).own (some ⟨w6.heap.size, 0, none⟩) 2 2 ([0, 0]) _ rfl (lit00 w6 _) (by simp; omega) (by simp; omega) ?_); intro v7 w7 hgr; obtain ⟨l7, E7, k7⟩ := nameL (l6 ++ ([0, 0])) (l6.length + 2) (by simp); rw [E7.out] at hgr; have H7 := Lib.hid ((H6.out.alloc _).grew hgr); clear hgr))
              go_roundg r.len
              case measure => simp [Ns.len]
              case rel =>
                refine ⟨r, j + 1, _, rfl, by omega, by go_num, ?_, by omega, by omega, by rw [Nat.add_mul, ← Nat.add_assoc]; exact H10.out, H7.out⟩
                refine hacc.out.indef TC.out HC0.out ?_
                rw [← E7.out, ← E6.out, ← E5.out, L3.out]; simp only [List.append_assoc, List.cons_append, List.nil_append]
            · by_cases hnb : c.length < 256
              · have NB := Lib.hid hnb
                have d1 : decide ((c.length : Int) < 256) = true := decide_eq_true (by omega)
                clear hnb
                go_wp2_with (first
                  | (at_builtin; (with_reducible refine wpList_more rfl (.tmp 113) (.tmp 116) rfl w.heap.size (.slice a3 l3.length c3) l3 rfl (H4.out.alloc _).own (some ⟨w4.heap.size, 0, none⟩) 2 2 ([129, ofI (c.length : Int)]) _ rfl (lit81 w4 _ _) (by simp; omega) (by simp; omega) ?_); intro v5 w5 hgr; obtain ⟨l5, E5, k5⟩ := nameL (l3 ++ ([129, ofI (c.length : Int)])) (l3.length + 2) (by simp); rw [E5.out] at hgr; have H5 := Lib.hid ((H4.out.alloc _).grew hgr); have C5 := Lib.hid ((C4.out.alloc _).grew hgr); obtain ⟨a5, c5, rfl⟩ := H5.out.own.form; have z5 := H5.out.size; clear hgr)
                  | (at_builtin; (with_reducible refine wpList_more rfl (.tmp 126) (.tmp 127) rfl w.heap.size (.slice a5 l5.length c5) l5 rfl H5.out.own (ca) c.length cc (c) _ rfl C5.out (by omega) z5 ?_); intro v6 w6 hgr; obtain ⟨l6, E6, k6⟩ := nameL (l5 ++ (c)) (l5.length + c.length) (by simp); rw [E6.out] at hgr; have H6 := Lib.hid (H5.out.grew hgr); clear hgr))
                go_roundg r.len
                case measure => simp [Ns.len]
                case rel =>
                  refine ⟨r, j + 1, _, rfl, by omega, by go_num, ?_, by omega, by omega, by rw [Nat.add_mul, ← Nat.add_assoc]; exact H10.out, H6.out⟩
                  refine hacc.out.step HCC.out (h := [129, ofI (c.length : Int)]) (fun h => len2 false _ NB.out (fun h => by cases h)) ?_
                  rw [← E6.out, ← E5.out, L3.out]; simp only [List.append_assoc, List.cons_append, List.nil_append]
              · have d1 : decide ((c.length : Int) < 256) = false := decide_eq_false (by omega)
                clear hnb
                go_wp2_with (first
                  | (at_builtin; (with_reducible refine wpList_more rfl (.tmp 118) (.tmp 124) rfl w.heap.size (.slice a3 l3.length c3) l3 rfl (H4.out.alloc _).own (some ⟨w4.heap.size, 0, none⟩) 3 3 ([130, ofI ((c.length : Int) / 256), ofI (c.length : Int)]) _ rfl (lit82 w4 _ _ _) (by simp; omega) (by simp; omega) ?_); intro v5 w5 hgr; obtain ⟨l5, E5, k5⟩ := nameL (l3 ++ ([130, ofI ((c.length : Int) / 256), ofI (c.length : Int)])) (l3.length + 3) (by simp); rw [E5.out] at hgr; have H5 := Lib.hid ((H4.out.alloc _).grew hgr); have C5 := Lib.hid ((C4.out.alloc _).grew hgr); obtain ⟨a5, c5, rfl⟩ := H5.out.own.form; have z5 := H5.out.size; clear hgr)
                  | (at_builtin; (with_reducible refine wpList_more rfl (.tmp 126) (.tmp 127) rfl w.heap.size (.slice a5 l5.length c5) l5 rfl H5.out.own (ca) c.length cc (c) _ rfl C5.out (by omega) z5 ?_); intro v6 w6 hgr; obtain ⟨l6, E6, k6⟩ := nameL (l5 ++ (c)) (l5.length + c.length) (by simp); rw [E6.out] at hgr; have H6 := Lib.hid (H5.out.grew hgr); clear hgr))
                go_roundg r.len
                case measure => simp [Ns.len]
                case rel =>
                  refine ⟨r, j + 1, _, rfl, by omega, by go_num, ?_, by omega, by omega, by rw [Nat.add_mul, ← Nat.add_assoc]; exact H10.out, H6.out⟩
                  refine hacc.out.step HCC.out (h := [130, ofI ((c.length : Int) / 256), ofI (c.length : Int)]) (fun h => len3 false _ (by omega) (fun h => by cases h)) ?_
                  rw [← E6.out, ← E5.out, L3.out]; simp only [List.append_assoc, List.cons_append, List.nil_append]
            · by_cases hnb : c.length < 128
              · have NB := Lib.hid hnb
                have d1 : decide ((c.length : Int) < 128) = true := decide_eq_true (by omega)
                clear hnb
                go_wp2_with (first
                  | (at_builtin; (with_reducible refine wpList_more rfl (.tmp 56) (.tmp 59) rfl w.heap.size (.slice a3 l3.length c3) l3 rfl (H4.out.alloc _).own (some ⟨w4.heap.size, 0, none⟩) 1 1 ([ofI (c.length : Int)]) _ rfl (lit1 w4 _ _) (by simp; omega) (by simp; omega) ?_); intro v5 w5 hgr; obtain ⟨l5, E5, k5⟩ := nameL (l3 ++ ([ofI (c.length : Int)])) (l3.length + 1) (by simp); rw [E5.out] at hgr; have H5 := Lib.hid ((H4.out.alloc _).grew hgr); have C5 := Lib.hid ((C4.out.alloc _).grew hgr); obtain ⟨a5, c5, rfl⟩ := H5.out.own.form; have z5 := H5.out.size; clear hgr)
                  | (at_builtin; (with_reducible refine wpList_more rfl (.tmp 126) (.tmp 127) rfl w.heap.size (.slice a5 l5.length c5) l5 rfl H5.out.own (ca) c.length cc (c) _ rfl C5.out (by omega) z5 ?_); intro v6 w6 hgr; obtain ⟨l6, E6, k6⟩ := nameL (l5 ++ (c)) (l5.length + c.length) (by simp); rw [E6.out] at hgr; have H6 := Lib.hid (H5.out.grew hgr); clear hgr))
                go_roundg r.len
                case measure => simp [Ns.len]
                case rel =>
                  refine ⟨r, j + 1, _, rfl, by omega, by go_num, ?_, by omega, by omega, by rw [Nat.add_mul, ← Nat.add_assoc]; exact H10.out, H6.out⟩
                  refine hacc.out.step HCC.out (h := [ofI (c.length : Int)]) (fun h => len1 false _ NB.out) ?_
                  rw [← E6.out, ← E5.out, L3.out]; simp only [List.append_assoc, List.cons_append, List.nil_append]
              · have d1 : decide ((c.length : Int) < 128) = false := decide_eq_false (by omega)
                clear hnb
                go_wp2_with (first
                  | (at_builtin; (with_reducible refine wpList_more rfl (.tmp 61) (.tmp 67) rfl w.heap.size (.slice a3 l3.length c3) l3 rfl (H4.out.alloc _).own (some ⟨w4.heap.size, 0, none⟩) 3 3 ([130, ofI ((c.length : Int) / 256), ofI (c.length : Int)]) _ rfl (lit82 w4 _ _ _) (by simp; omega) (by simp; omega) ?_); intro v5 w5 hgr; obtain ⟨l5, E5, k5⟩ := nameL (l3 ++ ([130, ofI ((c.length : Int) / 256), ofI (c.length : Int)])) (l3.length + 3) (by simp); rw [E5.out] at hgr; have H5 := Lib.hid ((H4.out.alloc _).grew hgr); have C5 := Lib.hid ((C4.out.alloc _).grew hgr); obtain ⟨a5, c5, rfl⟩ := H5.out.own.form; have z5 := H5.out.size; clear hgr)
                  | (at_builtin; (with_reducible refine wpList_more rfl (.tmp 126) (.tmp 127) rfl w.heap.size (.slice a5 l5.length c5) l5 rfl H5.out.own (ca) c.length cc (c) _ rfl C5.out (by omega) z5 ?_); intro v6 w6 hgr; obtain ⟨l6, E6, k6⟩ := nameL (l5 ++ (c)) (l5.length + c.length) (by simp); rw [E6.out] at hgr; have H6 := Lib.hid (H5.out.grew hgr); clear hgr))
                go_roundg r.len
                case measure => simp [Ns.len]
                case rel =>
                  refine ⟨r, j + 1, _, rfl, by omega, by go_num, ?_, by omega, by omega, by rw [Nat.add_mul, ← Nat.add_assoc]; exact H10.out, H6.out⟩
                  refine hacc.out.step HCC.out (h := [130, ofI ((c.length : Int) / 256), ofI (c.length : Int)]) (fun h => len3 false _ (by omega) (fun h => by cases h)) ?_
                  rw [← E6.out, ← E5.out, L3.out]; simp only [List.append_assoc, List.cons_append, List.nil_append]
        | false =>
          rw [ec] at Hc
          by_cases hb255 : 255 < t
          · skip
            have T := Lib.hid (show tagB t = [ofI (t / 256), ofI t] by unfold tagB; rw [if_pos hb255])
            have d255 : decide (t > 255) = true := decide_eq_true hb255
            have TC := Lib.hid ec
            obtain ⟨c, rfl⟩ : ∃ c, c = v := ⟨_, rfl⟩
            obtain ⟨ca, rfl⟩ : ∃ c, c = xa := ⟨_, rfl⟩
            obtain ⟨cc, rfl⟩ : ∃ c, c = xc := ⟨_, rfl⟩
            clear ec hb255
            go_upto_region 18 with (first
              | (go_at_call 15; refine (Hc.out _).mono ?_; rintro e w9 ⟨rfl, hw9⟩; rw [hw9]; clear hw9 w9)
              | (at_builtin; (with_reducible refine wpList_push1 rfl (.tmp 24) (.tmp 28) rfl w.heap.size (.slice oa l.length oc) l rfl H0.out.own (ofI (t / 256)) _ wr.heap.size rfl rfl (by omega) z0 ?_); intro v1 w1 hgr; obtain ⟨l1, E1, k1⟩ := nameL (l ++ [ofI (t / 256)]) (l.length + 1) (by simp); rw [E1.out] at hgr; have H1 := Lib.hid (H0.out.grew hgr); obtain ⟨a1, c1, rfl⟩ := H1.out.own.form; have z1 := H1.out.size; clear hgr)
              | (at_builtin; (with_reducible refine wpList_push1 rfl (.tmp 30) (.tmp 33) rfl w.heap.size (.slice a1 l1.length c1) l1 rfl H1.out.own (ofI t) _ w1.heap.size rfl rfl (by omega) z1 ?_); intro v3 w3 hgr; obtain ⟨l3, E3, k3⟩ := nameL (l1 ++ [ofI t]) (l1.length + 1) (by simp); rw [E3.out] at hgr; have H3 := Lib.hid (H1.out.grew hgr); obtain ⟨a3, c3, rfl⟩ := H3.out.own.form; have z3 := H3.out.size; have q3a := H3.out.cell hbl hbp HT3.out; have q3b := H3.out.cell hbl hbp HT5.out; have C3 := Lib.hid (BesP.old HX.out H3.out.only H3.out.own (Nat.le_refl _)); clear hgr)
              | (go_at_call 39; refine (next_any B p n 6 _ H3.out.die (by decide) (by decide)).mono ?_; rintro e w4 ⟨z, rfl, hz, hd⟩; have H4 := Lib.hid (H3.out.call hd); have C4 := Lib.hid (C3.out.call hd); have z4 := H4.out.size; clear hd))
            have L3 : Hid (l3 = l ++ tagB t) := by show _ = _; rw [T.out, ← E3.out, ← E1.out]; simp only [List.append_assoc, List.cons_append, List.nil_append]
            clear Hc HK T H0 H3 C3
            obtain rfl | rfl | rfl | rfl | rfl | rfl : z = 0 ∨ z = 1 ∨ z = 2 ∨ z = 3 ∨ z = 4 ∨ z = 5 := by omega
            · by_cases hnb : c.length < 128
              · have NB := Lib.hid hnb
                have d1 : decide ((c.length : Int) < 128) = true := decide_eq_true (by omega)
                clear hnb
                go_wp2_with (first
                  | (at_builtin; (with_reducible refine wpList_more rfl (.tmp 56) (.tmp 59) rfl w.heap.size (.slice a3 l3.length c3) l3 rfl (H4.out.alloc _).own (some ⟨w4.heap.size, 0, none⟩) 1 1 ([ofI (c.length : Int)]) _ rfl (lit1 w4 _ _) (by simp; omega) (by simp; omega) ?_); intro v5 w5 hgr; obtain ⟨l5, E5, k5⟩ := nameL (l3 ++ ([ofI (c.length : Int)])) (l3.length + 1) (by simp); rw [E5.out] at hgr; have H5 := Lib.hid ((H4.out.alloc _).grew hgr); have C5 := Lib.hid ((C4.out.alloc _).grew hgr); obtain ⟨a5, c5, rfl⟩ := H5.out.own.form; have z5 := H5.out.size; clear hgr)
                  | (at_builtin; (with_reducible refine wpList_more rfl (.tmp 126) (.tmp 127) rfl w.heap.size (.slice a5 l5.length c5) l5 rfl H5.out.own (ca) c.length cc (c) _ rfl C5.out (by omega) z5 ?_); intro v6 w6 hgr; obtain ⟨l6, E6, k6⟩ := nameL (l5 ++ (c)) (l5.length + c.length) (by simp); rw [E6.out] at hgr; have H6 := Lib.hid (H5.out.grew hgr); clear hgr))
                go_roundg r.len
                case measure => simp [Ns.len]
                case rel =>
                  refine ⟨r, j + 1, _, rfl, by omega, by go_num, ?_, by omega, by omega, by rw [Nat.add_mul, ← Nat.add_assoc]; exact H10.out, H6.out⟩
                  refine hacc.out.step (by rw [if_neg (by rw [TC.out]; decide)]) (h := [ofI (c.length : Int)]) (fun h => len1 false _ NB.out) ?_
                  rw [← E6.out, ← E5.out, L3.out]; simp only [List.append_assoc, List.cons_append, List.nil_append]
              · have d1 : decide ((c.length : Int) < 128) = false := decide_eq_false (by omega)
                clear hnb
                go_wp2_with (first
                  | (at_builtin; (with_reducible refine wpList_more rfl (.tmp 61) (.tmp 67) rfl w.heap.size (.slice a3 l3.length c3) l3 rfl (H4.out.alloc _).own (some ⟨w4.heap.size, 0, none⟩) 3 3 ([130, ofI ((c.length : Int) / 256), ofI (c.length : Int)]) _ rfl (lit82 w4 _ _ _) (by simp; omega) (by simp; omega) ?_); intro v5 w5 hgr; obtain ⟨l5, E5, k5⟩ := nameL (l3 ++ ([130, ofI ((c.length : Int) / 256), ofI (c.length : Int)])) (l3.length + 3) (by simp); rw [E5.out] at hgr; have H5 := Lib.hid ((H4.out.alloc _).grew hgr); have C5 := Lib.hid ((C4.out.alloc _).grew hgr); obtain ⟨a5, c5, rfl⟩ := H5.out.own.form; have z5 := H5.out.size; clear hgr)
                  | (at_builtin; (with_reducible refine wpList_more rfl (.tmp 126) (.tmp 127) rfl w.heap.size (.slice a5 l5.length c5) l5 rfl H5.out.own (ca) c.length cc (c) _ rfl C5.out (by omega) z5 ?_); intro v6 w6 hgr; obtain ⟨l6, E6, k6⟩ := nameL (l5 ++ (c)) (l5.length + c.length) (by simp); rw [E6.out] at hgr; have H6 := Lib.hid (H5.out.grew hgr); clear hgr))
                go_roundg r.len
                case measure => simp [Ns.len]
                case rel =>
                  refine ⟨r, j + 1, _, rfl, by omega, by go_num, ?_, by omega, by omega, by rw [Nat.add_mul, ← Nat.add_assoc]; exact H10.out, H6.out⟩
                  refine hacc.out.step (by rw [if_neg (by rw [TC.out]; decide)]) (h := [130, ofI ((c.length : Int) / 256), ofI (c.length : Int)]) (fun h => len3 false _ (by omega) (fun h => by cases h)) ?_
                  rw [← E6.out, ← E5.out, L3.out]; simp only [List.append_assoc, List.cons_append, List.nil_append]
            · skip
              go_wp2_with (first
                | (at_builtin; (with_reducible refine wpList_more rfl (.tmp 71) (.tmp 77) rfl w.heap.size (.slice a3 l3.length c3) l3 rfl (H4.out.alloc _).own (some ⟨w4.heap.size, 0, none⟩) 4 4 ([131, 0, ofI ((c.length : Int) / 256), ofI (c.length : Int)]) _ rfl (lit83 w4 _ _ _) (by simp; omega) (by simp; omega) ?_); intro v5 w5 hgr; obtain ⟨l5, E5, k5⟩ := nameL (l3 ++ ([131, 0, ofI ((c.length : Int) / 256), ofI (c.length : Int)])) (l3.length + 4) (by simp); rw [E5.out] at hgr; have H5 := Lib.hid ((H4.out.alloc _).grew hgr); have C5 := Lib.hid ((C4.out.alloc _).grew hgr); obtain ⟨a5, c5, rfl⟩ := H5.out.own.form; have z5 := H5.out.size; clear hgr)
                | (at_builtin; (with_reducible refine wpList_more rfl (.tmp 126) (.tmp 127) rfl w.heap.size (.slice a5 l5.length c5) l5 rfl H5.out.own (ca) c.length cc (c) _ rfl C5.out (by omega) z5 ?_); intro v6 w6 hgr; obtain ⟨l6, E6, k6⟩ := nameL (l5 ++ (c)) (l5.length + c.length) (by simp); rw [E6.out] at hgr; have H6 := Lib.hid (H5.out.grew hgr); clear hgr))
              go_roundg r.len
              case measure => simp [Ns.len]
              case rel =>
                refine ⟨r, j + 1, _, rfl, by omega, by go_num, ?_, by omega, by omega, by rw [Nat.add_mul, ← Nat.add_assoc]; exact H10.out, H6.out⟩
                refine hacc.out.step (by rw [if_neg (by rw [TC.out]; decide)]) (h := [131, 0, ofI ((c.length : Int) / 256), ofI (c.length : Int)]) (fun h => len4 _ (by omega)) ?_
                rw [← E6.out, ← E5.out, L3.out]; simp only [List.append_assoc, List.cons_append, List.nil_append]
            · skip
              go_wp2_with (first
                | (at_builtin; (with_reducible refine wpList_more rfl (.tmp 81) (.tmp 87) rfl w.heap.size (.slice a3 l3.length c3) l3 rfl (H4.out.alloc _).own (some ⟨w4.heap.size, 0, none⟩) 5 5 ([132, 0, 0, ofI ((c.length : Int) / 256), ofI (c.length : Int)]) _ rfl (lit84 w4 _ _ _) (by simp; omega) (by simp; omega) ?_); intro v5 w5 hgr; obtain ⟨l5, E5, k5⟩ := nameL (l3 ++ ([132, 0, 0, ofI ((c.length : Int) / 256), ofI (c.length : Int)])) (l3.length + 5) (by simp); rw [E5.out] at hgr; have H5 := Lib.hid ((H4.out.alloc _).grew hgr); have C5 := Lib.hid ((C4.out.alloc _).grew hgr); obtain ⟨a5, c5, rfl⟩ := H5.out.own.form; have z5 := H5.out.size; clear hgr)
                | (at_builtin; (with_reducible refine wpList_more rfl (.tmp 126) (.tmp 127) rfl w.heap.size (.slice a5 l5.length c5) l5 rfl H5.out.own (ca) c.length cc (c) _ rfl C5.out (by omega) z5 ?_); intro v6 w6 hgr; obtain ⟨l6, E6, k6⟩ := nameL (l5 ++ (c)) (l5.length + c.length) (by simp); rw [E6.out] at hgr; have H6 := Lib.hid (H5.out.grew hgr); clear hgr))
              go_roundg r.len
              case measure => simp [Ns.len]
              case rel =>
                refine ⟨r, j + 1, _, rfl, by omega, by go_num, ?_, by omega, by omega, by rw [Nat.add_mul, ← Nat.add_assoc]; exact H10.out, H6.out⟩
                refine hacc.out.step (by rw [if_neg (by rw [TC.out]; decide)]) (h := [132, 0, 0, ofI ((c.length : Int) / 256), ofI (c.length : Int)]) (fun h => len5 _ (by omega)) ?_
                rw [← E6.out, ← E5.out, L3.out]; simp only [List.append_assoc, List.cons_append, List.nil_append]
            · skip
              go_wp2_with (first
                | (at_builtin; (with_reducible refine wpList_more rfl (.tmp 101) (.tmp 107) rfl w.heap.size (.slice a3 l3.length c3) l3 rfl (H4.out.alloc _).own (some ⟨w4.heap.size, 0, none⟩) 3 3 ([130, ofI ((c.length : Int) / 256), ofI (c.length : Int)]) _ rfl (lit82 w4 _ _ _) (by simp; omega) (by simp; omega) ?_); intro v5 w5 hgr; obtain ⟨l5, E5, k5⟩ := nameL (l3 ++ ([130, ofI ((c.length : Int) / 256), ofI (c.length : Int)])) (l3.length + 3) (by simp); rw [E5.out] at hgr; have H5 := Lib.hid ((H4.out.alloc _).grew hgr); have C5 := Lib.hid ((C4.out.alloc _).grew hgr); obtain ⟨a5, c5, rfl⟩ := H5.out.own.form; have z5 := H5.out.size; clear hgr)
                | (at_builtin; (with_reducible refine wpList_more rfl (.tmp 126) (.tmp 127) rfl w.heap.size (.slice a5 l5.length c5) l5 rfl H5.out.own (ca) c.length cc (c) _ rfl C5.out (by omega) z5 ?_); intro v6 w6 hgr; obtain ⟨l6, E6, k6⟩ := nameL (l5 ++ (c)) (l5.length + c.length) (by simp); rw [E6.out] at hgr; have H6 := Lib.hid (H5.out.grew hgr); clear hgr))
              go_roundg r.len
              case measure => simp [Ns.len]
              case rel =>
                refine ⟨r, j + 1, _, rfl, by omega, by go_num, ?_, by omega, by omega, by rw [Nat.add_mul, ← Nat.add_assoc]; exact H10.out, H6.out⟩
                refine hacc.out.step (by rw [if_neg (by rw [TC.out]; decide)]) (h := [130, ofI ((c.length : Int) / 256), ofI (c.length : Int)]) (fun h => len3 false _ (by omega) (fun h => by cases h)) ?_
                rw [← E6.out, ← E5.out, L3.out]; simp only [List.append_assoc, List.cons_append, List.nil_append]
            · by_cases hnb : c.length < 256
              · have NB := Lib.hid hnb
                have d1 : decide ((c.length : Int) < 256) = true := decide_eq_true (by omega)
                clear hnb
                go_wp2_with (first
                  | (at_builtin; (with_reducible refine wpList_more rfl (.tmp 113) (.tmp 116) rfl w.heap.size (.slice a3 l3.length c3) l3 rfl (H4.out.alloc _).own (some ⟨w4.heap.size, 0, none⟩) 2 2 ([129, ofI (c.length : Int)]) _ rfl (lit81 w4 _ _) (by simp; omega) (by simp; omega) ?_); intro v5 w5 hgr; obtain ⟨l5, E5, k5⟩ := nameL (l3 ++ ([129, ofI (c.length : Int)])) (l3.length + 2) (by simp); rw [E5.out] at hgr; have H5 := Lib.hid ((H4.out.alloc _).grew hgr); have C5 := Lib.hid ((C4.out.alloc _).grew hgr); obtain ⟨a5, c5, rfl⟩ := H5.out.own.form; have z5 := H5.out.size; clear hgr)
                  | (at_builtin; (with_reducible refine wpList_more rfl (.tmp 126) (.tmp 127) rfl w.heap.size (.slice a5 l5.length c5) l5 rfl H5.out.own (ca) c.length cc (c) _ rfl C5.out (by omega) z5 ?_); intro v6 w6 hgr; obtain ⟨l6, E6, k6⟩ := nameL (l5 ++ (c)) (l5.length + c.length) (by simp); rw [E6.out] at hgr; have H6 := Lib.hid (H5.out.grew hgr); clear hgr))
                go_roundg r.len
                case measure => simp [Ns.len]
                case rel =>
                  refine ⟨r, j + 1, _, rfl, by omega, by go_num, ?_, by omega, by omega, by rw [Nat.add_mul, ← Nat.add_assoc]; exact H10.out, H6.out⟩
                  refine hacc.out.step (by rw [if_neg (by rw [TC.out]; decide)]) (h := [129, ofI (c.length : Int)]) (fun h => len2 false _ NB.out (fun h => by cases h)) ?_
                  rw [← E6.out, ← E5.out, L3.out]; simp only [List.append_assoc, List.cons_append, List.nil_append]
              · have d1 : decide ((c.length : Int) < 256) = false := decide_eq_false (by omega)
                clear hnb
                go_wp2_with (first
                  | (at_builtin; (with_reducible refine wpList_more rfl (.tmp 118) (.tmp 124) rfl w.heap.size (.slice a3 l3.length c3) l3 rfl (H4.out.alloc _).own (some ⟨w4.heap.size, 0, none⟩) 3 3 ([130, ofI ((c.length : Int) / 256), ofI (c.length : Int)]) _ rfl (lit82 w4 _ _ _) (by simp; omega) (by simp; omega) ?_); intro v5 w5 hgr; obtain ⟨l5, E5, k5⟩ := nameL (l3 ++ ([130, ofI ((c.length : Int) / 256), ofI (c.length : Int)])) (l3.length + 3) (by simp); rw [E5.out] at hgr; have H5 := Lib.hid ((H4.out.alloc _).grew hgr); have C5 := Lib.hid ((C4.out.alloc _).grew hgr); obtain ⟨a5, c5, rfl⟩ := H5.out.own.form; have z5 := H5.out.size; clear hgr)
                  | (at_builtin; (with_reducible refine wpList_more rfl (.tmp 126) (.tmp 127) rfl w.heap.size (.slice a5 l5.length c5) l5 rfl H5.out.own (ca) c.length cc (c) _ rfl C5.out (by omega) z5 ?_); intro v6 w6 hgr; obtain ⟨l6, E6, k6⟩ := nameL (l5 ++ (c)) (l5.length + c.length) (by simp); rw [E6.out] at hgr; have H6 := Lib.hid (H5.out.grew hgr); clear hgr))
                go_roundg r.len
                case measure => simp [Ns.len]
                case rel =>
                  refine ⟨r, j + 1, _, rfl, by omega, by go_num, ?_, by omega, by omega, by rw [Nat.add_mul, ← Nat.add_assoc]; exact H10.out, H6.out⟩
                  refine hacc.out.step (by rw [if_neg (by rw [TC.out]; decide)]) (h := [130, ofI ((c.length : Int) / 256), ofI (c.length : Int)]) (fun h => len3 false _ (by omega) (fun h => by cases h)) ?_
                  rw [← E6.out, ← E5.out, L3.out]; simp only [List.append_assoc, List.cons_append, List.nil_append]
            · by_cases hnb : c.length < 128
              · have NB := Lib.hid hnb
                have d1 : decide ((c.length : Int) < 128) = true := decide_eq_true (by omega)
                clear hnb
                go_wp2_with (first
                  | (at_builtin; (with_reducible refine wpList_more rfl (.tmp 56) (.tmp 59) rfl w.heap.size (.slice a3 l3.length c3) l3 rfl (H4.out.alloc _).own (some ⟨w4.heap.size, 0, none⟩) 1 1 ([ofI (c.length : Int)]) _ rfl (lit1 w4 _ _) (by simp; omega) (by simp; omega) ?_); intro v5 w5 hgr; obtain ⟨l5, E5, k5⟩ := nameL (l3 ++ ([ofI (c.length : Int)])) (l3.length + 1) (by simp); rw [E5.out] at hgr; have H5 := Lib.hid ((H4.out.alloc _).grew hgr); have C5 := Lib.hid ((C4.out.alloc _).grew hgr); obtain ⟨a5, c5, rfl⟩ := H5.out.own.form; have z5 := H5.out.size; clear hgr)
                  | (at_builtin; (with_reducible refine wpList_more rfl (.tmp 126) (.tmp 127) rfl w.heap.size (.slice a5 l5.length c5) l5 rfl H5.out.own (ca) c.length cc (c) _ rfl C5.out (by omega) z5 ?_); intro v6 w6 hgr; obtain ⟨l6, E6, k6⟩ := nameL (l5 ++ (c)) (l5.length + c.length) (by simp); rw [E6.out] at hgr; have H6 := Lib.hid (H5.out.grew hgr); clear hgr))
                go_roundg r.len
                case measure => simp [Ns.len]
                case rel =>
                  refine ⟨r, j + 1, _, rfl, by omega, by go_num, ?_, by omega, by omega, by rw [Nat.add_mul, ← Nat.add_assoc]; exact H10.out, H6.out⟩
                  refine hacc.out.step (by rw [if_neg (by rw [TC.out]; decide)]) (h := [ofI (c.length : Int)]) (fun h => len1 false _ NB.out) ?_
                  rw [← E6.out, ← E5.out, L3.out]; simp only [List.append_assoc, List.cons_append, List.nil_append]
              · have d1 : decide ((c.length : Int) < 128) = false := decide_eq_false (by omega)
                clear hnb
                go_wp2_with (first
                  | (at_builtin; (with_reducible refine wpList_more rfl (.tmp 61) (.tmp 67) rfl w.heap.size (.slice a3 l3.length c3) l3 rfl (H4.out.alloc _).own (some ⟨w4.heap.size, 0, none⟩) 3 3 ([130, ofI ((c.length : Int) / 256), ofI (c.length : Int)]) _ rfl (lit82 w4 _ _ _) (by simp; omega) (by simp; omega) ?_); intro v5 w5 hgr; obtain ⟨l5, E5, k5⟩ := nameL (l3 ++ ([130, ofI ((c.length : Int) / 256), ofI (c.length : Int)])) (l3.length + 3) (by simp); rw [E5.out] at hgr; have H5 := Lib.hid ((H4.out.alloc _).grew hgr); have C5 := Lib.hid ((C4.out.alloc _).grew hgr); obtain ⟨a5, c5, rfl⟩ := H5.out.own.form; have z5 := H5.out.size; clear hgr)
                  | (at_builtin; (with_reducible refine wpList_more rfl (.tmp 126) (.tmp 127) rfl w.heap.size (.slice a5 l5.length c5) l5 rfl H5.out.own (ca) c.length cc (c) _ rfl C5.out (by omega) z5 ?_); intro v6 w6 hgr; obtain ⟨l6, E6, k6⟩ := nameL (l5 ++ (c)) (l5.length + c.length) (by simp); rw [E6.out] at hgr; have H6 := Lib.hid (H5.out.grew hgr); clear hgr))
                go_roundg r.len
                case measure => simp [Ns.len]
                case rel =>
                  refine ⟨r, j + 1, _, rfl, by omega, by go_num, ?_, by omega, by omega, by rw [Nat.add_mul, ← Nat.add_assoc]; exact H10.out, H6.out⟩
                  refine hacc.out.step (by rw [if_neg (by rw [TC.out]; decide)]) (h := [130, ofI ((c.length : Int) / 256), ofI (c.length : Int)]) (fun h => len3 false _ (by omega) (fun h => by cases h)) ?_
                  rw [← E6.out, ← E5.out, L3.out]; simp only [List.append_assoc, List.cons_append, List.nil_append]
          · skip
            have T := Lib.hid (show tagB t = [ofI t] by unfold tagB; rw [if_neg hb255])
            have d255 : decide (t > 255) = false := decide_eq_false hb255
            have TC := Lib.hid ec
            obtain ⟨c, rfl⟩ : ∃ c, c = v := ⟨_, rfl⟩
            obtain ⟨ca, rfl⟩ : ∃ c, c = xa := ⟨_, rfl⟩
            obtain ⟨cc, rfl⟩ : ∃ c, c = xc := ⟨_, rfl⟩
            clear ec hb255
            go_upto_region 18 with (first
              | (go_at_call 15; refine (Hc.out _).mono ?_; rintro e w9 ⟨rfl, hw9⟩; rw [hw9]; clear hw9 w9)
              | (at_builtin; (with_reducible refine wpList_push1 rfl (.tmp 30) (.tmp 33) rfl w.heap.size (.slice oa l.length oc) l rfl H0.out.own (ofI t) _ wr.heap.size rfl rfl (by omega) z0 ?_); intro v3 w3 hgr; obtain ⟨l3, E3, k3⟩ := nameL (l ++ [ofI t]) (l.length + 1) (by simp); rw [E3.out] at hgr; have H3 := Lib.hid (H0.out.grew hgr); obtain ⟨a3, c3, rfl⟩ := H3.out.own.form; have z3 := H3.out.size; have q3a := H3.out.cell hbl hbp HT3.out; have q3b := H3.out.cell hbl hbp HT5.out; have C3 := Lib.hid (BesP.old HX.out H3.out.only H3.out.own (Nat.le_refl _)); clear hgr)
              | (go_at_call 39; refine (next_any B p n 6 _ H3.out.die (by decide) (by decide)).mono ?_; rintro e w4 ⟨z, rfl, hz, hd⟩; have H4 := Lib.hid (H3.out.call hd); have C4 := Lib.hid (C3.out.call hd); have z4 := H4.out.size; clear hd))
            have L3 : Hid (l3 = l ++ tagB t) := by show _ = _; rw [T.out, ← E3.out]
            clear Hc HK T H0 H3 C3
            obtain rfl | rfl | rfl | rfl | rfl | rfl : z = 0 ∨ z = 1 ∨ z = 2 ∨ z = 3 ∨ z = 4 ∨ z = 5 := by omega
            · by_cases hnb : c.length < 128
              · have NB := Lib.hid hnb
                have d1 : decide ((c.length : Int) < 128) = true := decide_eq_true (by omega)
                clear hnb
                go_wp2_with (first
                  | (at_builtin; (with_reducible refine wpList_more rfl (.tmp 56) (.tmp 59) rfl w.heap.size (.slice a3 l3.length c3) l3 rfl (H4.out.alloc _).own (some ⟨w4.heap.size, 0, none⟩) 1 1 ([ofI (c.length : Int)]) _ rfl (lit1 w4 _ _) (by simp; omega) (by simp; omega) ?_); intro v5 w5 hgr; obtain ⟨l5, E5, k5⟩ := nameL (l3 ++ ([ofI (c.length : Int)])) (l3.length + 1) (by simp); rw [E5.out] at hgr; have H5 := Lib.hid ((H4.out.alloc _).grew hgr); have C5 := Lib.hid ((C4.out.alloc _).grew hgr); obtain ⟨a5, c5, rfl⟩ := H5.out.own.form; have z5 := H5.out.size; clear hgr)
                  | (at_builtin; (with_reducible refine wpList_more rfl (.tmp 126) (.tmp 127) rfl w.heap.size (.slice a5 l5.length c5) l5 rfl H5.out.own (ca) c.length cc (c) _ rfl C5.out (by omega) z5 ?_); intro v6 w6 hgr; obtain ⟨l6, E6, k6⟩ := nameL (l5 ++ (c)) (l5.length + c.length) (by simp); rw [E6.out] at hgr; have H6 := Lib.hid (H5.out.grew hgr); clear hgr))
                go_roundg r.len
                case measure => simp [Ns.len]
                case rel =>
                  refine ⟨r, j + 1, _, rfl, by omega, by go_num, ?_, by omega, by omega, by rw [Nat.add_mul, ← Nat.add_assoc]; exact H10.out, H6.out⟩
                  refine hacc.out.step (by rw [if_neg (by rw [TC.out]; decide)]) (h := [ofI (c.length : Int)]) (fun h => len1 false _ NB.out) ?_
                  rw [← E6.out, ← E5.out, L3.out]; simp only [List.append_assoc, List.cons_append, List.nil_append]
              · have d1 : decide ((c.length : Int) < 128) = false := decide_eq_false (by omega)
                clear hnb
                go_wp2_with (first
                  | (at_builtin; (with_reducible refine wpList_more rfl (.tmp 61) (.tmp 67) rfl w.heap.size (.slice a3 l3.length c3) l3 rfl (H4.out.alloc _).own (some ⟨w4.heap.size, 0, none⟩) 3 3 ([130, ofI ((c.length : Int) / 256), ofI (c.length : Int)]) _ rfl (lit82 w4 _ _ _) (by simp; omega) (by simp; omega) ?_); intro v5 w5 hgr; obtain ⟨l5, E5, k5⟩ := nameL (l3 ++ ([130, ofI ((c.length : Int) / 256), ofI (c.length : Int)])) (l3.length + 3) (by simp); rw [E5.out] at hgr; have H5 := Lib.hid ((H4.out.alloc _).grew hgr); have C5 := Lib.hid ((C4.out.alloc _).grew hgr); obtain ⟨a5, c5, rfl⟩ := H5.out.own.form; have z5 := H5.out.size; clear hgr)
                  | (at_builtin; (with_reducible refine wpList_more rfl (.tmp 126) (.tmp 127) rfl w.heap.size (.slice a5 l5.length c5) l5 rfl H5.out.own (ca) c.length cc (c) _ rfl C5.out (by omega) z5 ?_); intro v6 w6 hgr; obtain ⟨l6, E6, k6⟩ := nameL (l5 ++ (c)) (l5.length + c.length) (by simp); rw [E6.out] at hgr; have H6 := Lib.hid (H5.out.grew hgr); clear hgr))
                go_roundg r.len
                case measure => simp [Ns.len]
                case rel =>
                  refine ⟨r, j + 1, _, rfl, by omega, by go_num, ?_, by omega, by omega, by rw [Nat.add_mul, ← Nat.add_assoc]; exact H10.out, H6.out⟩
                  refine hacc.out.step (by rw [if_neg (by rw [TC.out]; decide)]) (h := [130, ofI ((c.length : Int) / 256), ofI (c.length : Int)]) (fun h => len3 false _ (by omega) (fun h => by cases h)) ?_
                  rw [← E6.out, ← E5.out, L3.out]; simp only [List.append_assoc, List.cons_append, List.nil_append]
            · skip
              go_wp2_with (first
                | (at_builtin; (with_reducible refine wpList_more rfl (.tmp 71) (.tmp 77) rfl w.heap.size (.slice a3 l3.length c3) l3 rfl (H4.out.alloc _).own (some ⟨w4.heap.size, 0, none⟩) 4 4 ([131, 0, ofI ((c.length : Int) / 256), ofI (c.length : Int)]) _ rfl (lit83 w4 _ _ _) (by simp; omega) (by simp; omega) ?_); intro v5 w5 hgr; obtain ⟨l5, E5, k5⟩ := nameL (l3 ++ ([131, 0, ofI ((c.length : Int) / 256), ofI (c.length : Int)])) (l3.length + 4) (by simp); rw [E5.out] at hgr; have H5 := Lib.hid ((H4.out.alloc _).grew hgr); have C5 := Lib.hid ((C4.out.alloc _).grew hgr); obtain ⟨a5, c5, rfl⟩ := H5.out.own.form; have z5 := H5.out.size; clear hgr)
                | (at_builtin; (with_reducible refine wpList_more rfl (.tmp 126) (.tmp 127) rfl w.heap.size (.slice a5 l5.length c5) l5 rfl H5.out.own (ca) c.length cc (c) _ rfl C5.out (by omega) z5 ?_); intro v6 w6 hgr; obtain ⟨l6, E6, k6⟩ := nameL (l5 ++ (c)) (l5.length + c.length) (by simp); rw [E6.out] at hgr; have H6 := Lib.hid (H5.out.grew hgr); clear hgr))
              go_roundg r.len
              case measure => simp [Ns.len]
              case rel =>
                refine ⟨r, j + 1, _, rfl, by omega, by go_num, ?_, by omega, by omega, by rw [Nat.add_mul, ← Nat.add_assoc]; exact H10.out, H6.out⟩
                refine hacc.out.step (by rw [if_neg (by rw [TC.out]; decide)]) (h := [131, 0, ofI ((c.length : Int) / 256), ofI (c.length : Int)]) (fun h => len4 _ (by omega)) ?_
                rw [← E6.out, ← E5.out, L3.out]; simp only [List.append_assoc, List.cons_append, List.nil_append]
            · skip
              go_wp2_with (first
                | (at_builtin; (with_reducible refine wpList_more rfl (.tmp 81) (.tmp 87) rfl w.heap.size (.slice a3 l3.length c3) l3 rfl (H4.out.alloc _).own (some ⟨w4.heap.size, 0, none⟩) 5 5 ([132, 0, 0, ofI ((c.length : Int) / 256), ofI (c.length : Int)]) _ rfl (lit84 w4 _ _ _) (by simp; omega) (by simp; omega) ?_); intro v5 w5 hgr; obtain ⟨l5, E5, k5⟩ := nameL (l3 ++ ([132, 0, 0, ofI ((c.length : Int) / 256), ofI (c.length : Int)])) (l3.length + 5) (by simp); rw [E5.out] at hgr; have H5 := Lib.hid ((H4.out.alloc _).grew hgr); have C5 := Lib.hid ((C4.out.alloc _).grew hgr); obtain ⟨a5, c5, rfl⟩ := H5.out.own.form; have z5 := H5.out.size; clear hgr)
                | (at_builtin; (with_reducible refine wpList_more rfl (.tmp 126) (.tmp 127) rfl w.heap.size (.slice a5 l5.length c5) l5 rfl H5.out.own (ca) c.length cc (c) _ rfl C5.out (by omega) z5 ?_); intro v6 w6 hgr; obtain ⟨l6, E6, k6⟩ := nameL (l5 ++ (c)) (l5.length + c.length) (by simp); rw [E6.out] at hgr; have H6 := Lib.hid (H5.out.grew hgr); clear hgr))
              go_roundg r.len
              case measure => simp [Ns.len]
              case rel =>
                refine ⟨r, j + 1, _, rfl, by omega, by go_num, ?_, by omega, by omega, by rw [Nat.add_mul, ← Nat.add_assoc]; exact H10.out, H6.out⟩
                refine hacc.out.step (by rw [if_neg (by rw [TC.out]; decide)]) (h := [132, 0, 0, ofI ((c.length : Int) / 256), ofI (c.length : Int)]) (fun h => len5 _ (by omega)) ?_
                rw [← E6.out, ← E5.out, L3.out]; simp only [List.append_assoc, List.cons_append, List.nil_append]
            · skip
              go_wp2_with (first
                | (at_builtin; (with_reducible refine wpList_more rfl (.tmp 101) (.tmp 107) rfl w.heap.size (.slice a3 l3.length c3) l3 rfl (H4.out.alloc _).own (some ⟨w4.heap.size, 0, none⟩) 3 3 ([130, ofI ((c.length : Int) / 256), ofI (c.length : Int)]) _ rfl (lit82 w4 _ _ _) (by simp; omega) (by simp; omega) ?_); intro v5 w5 hgr; obtain ⟨l5, E5, k5⟩ := nameL (l3 ++ ([130, ofI ((c.length : Int) / 256), ofI (c.length : Int)])) (l3.length + 3) (by simp); rw [E5.out] at hgr; have H5 := Lib.hid ((H4.out.alloc _).grew hgr); have C5 := Lib.hid ((C4.out.alloc _).grew hgr); obtain ⟨a5, c5, rfl⟩ := H5.out.own.form; have z5 := H5.out.size; clear hgr)
                | (at_builtin; (with_reducible refine wpList_more rfl (.tmp 126) (.tmp 127) rfl w.heap.size (.slice a5 l5.length c5) l5 rfl H5.out.own (ca) c.length cc (c) _ rfl C5.out (by omega) z5 ?_); intro v6 w6 hgr; obtain ⟨l6, E6, k6⟩ := nameL (l5 ++ (c)) (l5.length + c.length) (by simp); rw [E6.out] at hgr; have H6 := Lib.hid (H5.out.grew hgr); clear hgr))
              go_roundg r.len
              case measure => simp [Ns.len]
              case rel =>
                refine ⟨r, j + 1, _, rfl, by omega, by go_num, ?_, by omega, by omega, by rw [Nat.add_mul, ← Nat.add_assoc]; exact H10.out, H6.out⟩
                refine hacc.out.step (by rw [if_neg (by rw [TC.out]; decide)]) (h := [130, ofI ((c.length : Int) / 256), ofI (c.length : Int)]) (fun h => len3 false _ (by omega) (fun h => by cases h)) ?_
                rw [← E6.out, ← E5.out, L3.out]; simp only [List.append_assoc, List.cons_append, List.nil_append]
            · by_cases hnb : c.length < 256
              · have NB := Lib.hid hnb
                have d1 : decide ((c.length : Int) < 256) = true := decide_eq_true (by omega)
                clear hnb
                go_wp2_with (first
                  | (at_builtin; (with_reducible refine wpList_more rfl (.tmp 113) (.tmp 116) rfl w.heap.size (.slice a3 l3.length c3) l3 rfl (H4.out.alloc _).own (some ⟨w4.heap.size, 0, none⟩) 2 2 ([129, ofI (c.length : Int)]) _ rfl (lit81 w4 _ _) (by simp; omega) (by simp; omega) ?_); intro v5 w5 hgr; obtain ⟨l5, E5, k5⟩ := nameL (l3 ++ ([129, ofI (c.length : Int)])) (l3.length + 2) (by simp); rw [E5.out] at hgr; have H5 := Lib.hid ((H4.out.alloc _).grew hgr); have C5 := Lib.hid ((C4.out.alloc _).grew hgr); obtain ⟨a5, c5, rfl⟩ := H5.out.own.form; have z5 := H5.out.size; clear hgr)
                  | (at_builtin; (with_reducible refine wpList_more rfl (.tmp 126) (.tmp 127) rfl w.heap.size (.slice a5 l5.length c5) l5 rfl H5.out.own (ca) c.length cc (c) _ rfl C5.out (by omega) z5 ?_); intro v6 w6 hgr; obtain ⟨l6, E6, k6⟩ := nameL (l5 ++ (c)) (l5.length + c.length) (by simp); rw [E6.out] at hgr; have H6 := Lib.hid (H5.out.grew hgr); clear hgr))
                go_roundg r.len
                case measure => simp [Ns.len]
                case rel =>
                  refine ⟨r, j + 1, _, rfl, by omega, by go_num, ?_, by omega, by omega, by rw [Nat.add_mul, ← Nat.add_assoc]; exact H10.out, H6.out⟩
                  refine hacc.out.step (by rw [if_neg (by rw [TC.out]; decide)]) (h := [129, ofI (c.length : Int)]) (fun h => len2 false _ NB.out (fun h => by cases h)) ?_
                  rw [← E6.out, ← E5.out, L3.out]; simp only [List.append_assoc, List.cons_append, List.nil_append]
              · have d1 : decide ((c.length : Int) < 256) = false := decide_eq_false (by omega)
                clear hnb
                go_wp2_with (first
                  | (at_builtin; (with_reducible refine wpList_more rfl (.tmp 118) (.tmp 124) rfl w.heap.size (.slice a3 l3.length c3) l3 rfl (H4.out.alloc _).own (some ⟨w4.heap.size, 0, none⟩) 3 3 ([130, ofI ((c.length : Int) / 256), ofI (c.length : Int)]) _ rfl (lit82 w4 _ _ _) (by simp; omega) (by simp; omega) ?_); intro v5 w5 hgr; obtain ⟨l5, E5, k5⟩ := nameL (l3 ++ ([130, ofI ((c.length : Int) / 256), ofI (c.length : Int)])) (l3.length + 3) (by simp); rw [E5.out] at hgr; have H5 := Lib.hid ((H4.out.alloc _).grew hgr); have C5 := Lib.hid ((C4.out.alloc _).grew hgr); obtain ⟨a5, c5, rfl⟩ := H5.out.own.form; have z5 := H5.out.size; clear hgr)
                  | (at_builtin; (with_reducible refine wpList_more rfl (.tmp 126) (.tmp 127) rfl w.heap.size (.slice a5 l5.length c5) l5 rfl H5.out.own (ca) c.length cc (c) _ rfl C5.out (by omega) z5 ?_); intro v6 w6 hgr; obtain ⟨l6, E6, k6⟩ := nameL (l5 ++ (c)) (l5.length + c.length) (by simp); rw [E6.out] at hgr; have H6 := Lib.hid (H5.out.grew hgr); clear hgr))
                go_roundg r.len
                case measure => simp [Ns.len]
                case rel =>
                  refine ⟨r, j + 1, _, rfl, by omega, by go_num, ?_, by omega, by omega, by rw [Nat.add_mul, ← Nat.add_assoc]; exact H10.out, H6.out⟩
                  refine hacc.out.step (by rw [if_neg (by rw [TC.out]; decide)]) (h := [130, ofI ((c.length : Int) / 256), ofI (c.length : Int)]) (fun h => len3 false _ (by omega) (fun h => by cases h)) ?_
                  rw [← E6.out, ← E5.out, L3.out]; simp only [List.append_assoc, List.cons_append, List.nil_append]
            · by_cases hnb : c.length < 128
              · have NB := Lib.hid hnb
                have d1 : decide ((c.length : Int) < 128) = true := decide_eq_true (by omega)
                clear hnb
                go_wp2_with (first
                  | (at_builtin; (with_reducible refine wpList_more rfl (.tmp 56) (.tmp 59) rfl w.heap.size (.slice a3 l3.length c3) l3 rfl (H4.out.alloc _).own (some ⟨w4.heap.size, 0, none⟩) 1 1 ([ofI (c.length : Int)]) _ rfl (lit1 w4 _ _) (by simp; omega) (by simp; omega) ?_); intro v5 w5 hgr; obtain ⟨l5, E5, k5⟩ := nameL (l3 ++ ([ofI (c.length : Int)])) (l3.length + 1) (by simp); rw [E5.out] at hgr; have H5 := Lib.hid ((H4.out.alloc _).grew hgr); have C5 := Lib.hid ((C4.out.alloc _).grew hgr); obtain ⟨a5, c5, rfl⟩ := H5.out.own.form; have z5 := H5.out.size; clear hgr)
                  | (at_builtin; (with_reducible refine wpList_more rfl (.tmp 126) (.tmp 127) rfl w.heap.size (.slice a5 l5.length c5) l5 rfl H5.out.own (ca) c.length cc (c) _ rfl C5.out (by omega) z5 ?_); intro v6 w6 hgr; obtain ⟨l6, E6, k6⟩ := nameL (l5 ++ (c)) (l5.length + c.length) (by simp); rw [E6.out] at hgr; have H6 := Lib.hid (H5.out.grew hgr); clear hgr))
                go_roundg r.len
                case measure => simp [Ns.len]
                case rel =>
                  refine ⟨r, j + 1, _, rfl, by omega, by go_num, ?_, by omega, by omega, by rw [Nat.add_mul, ← Nat.add_assoc]; exact H10.out, H6.out⟩
                  refine hacc.out.step (by rw [if_neg (by rw [TC.out]; decide)]) (h := [ofI (c.length : Int)]) (fun h => len1 false _ NB.out) ?_
                  rw [← E6.out, ← E5.out, L3.out]; simp only [List.append_assoc, List.cons_append, List.nil_append]
              · have d1 : decide ((c.length : Int) < 128) = false := decide_eq_false (by omega)
                clear hnb
                go_wp2_with (first
                  | (at_builtin; (with_reducible refine wpList_more rfl (.tmp 61) (.tmp 67) rfl w.heap.size (.slice a3 l3.length c3) l3 rfl (H4.out.alloc _).own (some ⟨w4.heap.size, 0, none⟩) 3 3 ([130, ofI ((c.length : Int) / 256), ofI (c.length : Int)]) _ rfl (lit82 w4 _ _ _) (by simp; omega) (by simp; omega) ?_); intro v5 w5 hgr; obtain ⟨l5, E5, k5⟩ := nameL (l3 ++ ([130, ofI ((c.length : Int) / 256), ofI (c.length : Int)])) (l3.length + 3) (by simp); rw [E5.out] at hgr; have H5 := Lib.hid ((H4.out.alloc _).grew hgr); have C5 := Lib.hid ((C4.out.alloc _).grew hgr); obtain ⟨a5, c5, rfl⟩ := H5.out.own.form; have z5 := H5.out.size; clear hgr)
                  | (at_builtin; (with_reducible refine wpList_more rfl (.tmp 126) (.tmp 127) rfl w.heap.size (.slice a5 l5.length c5) l5 rfl H5.out.own (ca) c.length cc (c) _ rfl C5.out (by omega) z5 ?_); intro v6 w6 hgr; obtain ⟨l6, E6, k6⟩ := nameL (l5 ++ (c)) (l5.length + c.length) (by simp); rw [E6.out] at hgr; have H6 := Lib.hid (H5.out.grew hgr); clear hgr))
                go_roundg r.len
                case measure => simp [Ns.len]
                case rel =>
                  refine ⟨r, j + 1, _, rfl, by omega, by go_num, ?_, by omega, by omega, by rw [Nat.add_mul, ← Nat.add_assoc]; exact H10.out, H6.out⟩
                  refine hacc.out.step (by rw [if_neg (by rw [TC.out]; decide)]) (h := [130, ofI ((c.length : Int) / 256), ofI (c.length : Int)]) (fun h => len3 false _ (by omega) (fun h => by cases h)) ?_
                  rw [← E6.out, ← E5.out, L3.out]; simp only [List.append_assoc, List.cons_append, List.nil_append]
end Go.Proofs.Ytljalnfjneeieaa
