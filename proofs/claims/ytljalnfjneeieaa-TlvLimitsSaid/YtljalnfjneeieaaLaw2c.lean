/- Layer 2: TlvLimits. -/
import Derived.Test.YtljalnfjneeieaaLaw2a
import Derived.Test.YtljalnfjneeieaaLimP
import Derived.Test.YtljalnfjneeieaaRows2
import Derived.Test.YtljalnfjneeieaaMod
import Derived.Test.YtljalnfjneeieaaSameN
namespace Go.Proofs.Ytljalnfjneeieaa
open Go.RowKit Go.Deep

theorem BytesOut.parts {r : Except Int (List UInt8)} {w : World} {e : Ending} {w' : World} (h : BytesOut r w e w') {ec : Int} {b : List UInt8} (h1 : errOf r = ec) (h2 : bytesOf r = b) : ∃ a c, e = .returned (.tuple #[.slice a b.length c, .int .i64 ec]) ∧ BsS w' (New w w') (.slice a b.length c) b ∧ Below w.heap.size w w' := by
  obtain ⟨v, e1, e2, e3⟩ := h
  subst h1 h2
  obtain ⟨a, c, rfl⟩ := e2.form2
  exact ⟨a, c, e1, e2, e3⟩
theorem NodesOut.parts {r : Except Int Ns} {w : World} {e : Ending} {w' : World} (h : NodesOut r w e w') {ec : Int} {l : Nat} (h1 : errOf r = ec) (h2 : (nodesOf r).len = l) : ∃ a c, e = .returned (.tuple #[.slice a l c, .int .i64 ec]) ∧ Below w.heap.size w w' := by
  obtain ⟨v, e1, e2, e3⟩ := h
  subst h1 h2
  obtain ⟨a, c, rfl⟩ := e2.form2
  exact ⟨a, c, e1, e3⟩
theorem val_small {z : Int} (h0 : 0 ≤ z) (h1 : z ≤ 255) : Value.int .u8 z = U8 (ofI z) := by rw [← val_mod, Int.emod_eq_of_lt h0 (by omega)]
theorem pair_lit (w : World) (x y : Int) (ty : TypeId) (a b : UInt8) (hx : Value.int .u8 x = U8 a) (hy : Value.int .u8 y = U8 b) : BsS (w.alloc (.cells #[.int .u8 x, .int .u8 y] ty)) (New w (w.alloc (.cells #[.int .u8 x, .int .u8 y] ty))) (.slice (some ⟨w.heap.size, 0, none⟩) 2 2) [a, b] :=
  lit_new w [a, b] ty (by simp) _ (by rw [hx, hy]; rfl)
theorem pair_lit0 (w : World) (ty : TypeId) : BsS (w.alloc (.cells #[.int .u8 4, .int .u8 0] ty)) (New w (w.alloc (.cells #[.int .u8 4, .int .u8 0] ty))) (.slice (some ⟨w.heap.size, 0, none⟩) 2 2) [4, 0] :=
  lit_new w [4, 0] ty (by simp) _ rfl
theorem new_at (w : World) (o : Obj) (p : Nat) (h : p = w.heap.size) : (w.alloc o).heap[p]? = some o := by subst h; exact heap_alloc_new w o
theorem nestB_len (d j : Nat) : (nestB d j).length = 2 * j := by
  induction j with
  | zero => rfl
  | succ j ih => simp [nestB, ih]; omega
set_option maxRecDepth 100000 in
set_option maxHeartbeats 4000000 in
theorem tlvLimits_law (n : Int) (wfn : (Lit.int .i64 n).wf = true) (m : Int) (wfm : (Lit.int .i64 m).wf = true) (w : World) : Calls Try.prog 5 #[.int .i64 n, .int .i64 m] w fun e w' => e = .returned (.bool true) ∧ Below w.heap.size w w' := by
  have hn : I64in n := by simp [Lit.wf, IntKind.min, IntKind.max, IntKind.signed, IntKind.bits] at wfn; exact ⟨by omega, by omega⟩
  have hm : I64in m := by simp [Lit.wf, IntKind.min, IntKind.max, IntKind.signed, IntKind.bits] at wfm; exact ⟨by omega, by omega⟩
  obtain ⟨d, hd, d2⟩ : ∃ d : Nat, n % 12 = (d : Int) ∧ d ≤ 11 := ⟨(n % 12).toNat, by omega, by omega⟩
  obtain ⟨c, hc, c2⟩ : ∃ c : Nat, m % 12 = (c : Int) ∧ c ≤ 11 := ⟨(m % 12).toNat, by omega, by omega⟩
  have Hd := Lib.hid hd; have Hc := Lib.hid hc; have Hn := Lib.hid hn; have Hm := Lib.hid hm
  clear wfn wfm hd hc hn hm
  go_enter Try.func5, Try.ntmps5
  go_upto_region 2 with (first
    | (go_at_call 25; refine (mod_any _ 12 (by first | exact Hn.out | exact Hm.out) (by decide) (by decide) _).mono ?_; rintro e w1 ⟨rfl, hw1⟩; rw [hw1]; clear hw1 w1; first | rw [Hd.out] | rw [Hc.out]))
  go_wp2_with fail
  go_loopg [8] (d + 1) (fun q i wr => ∃ (k : Nat) (a : Option Addr) (c : Nat), k + q = d + 1 ∧ k ≤ d ∧ i = .int .i64 (1 + k) ∧ wr.heap[w.heap.size]? = some (.cells #[.int .i64 48, .slice none 0 0, .slice a (nest k).len c] 42 (0, 0)) ∧
      NsS wr (fun b => w.heap.size < b ∧ b < wr.heap.size) (.slice a (nest k).len c) (nest k) ∧ Below w.heap.size w wr)
  case atStart => exact ⟨0, none, 0, by omega, by omega, by go_num, heap_alloc_new _ _, NsS.nil0 _ _, (Below.refl _ _).alloc (Nat.le_refl _) _⟩
  case round =>
    obtain ⟨wo, rfl⟩ : ∃ wo : World, wo = wr := ⟨_, rfl⟩
    obtain ⟨k, a, cp, hq, hk, rfl, hx, hN, hb⟩ := hrel
    obtain ⟨x0, x1, x2, xf⟩ := three hx
    have HX := Lib.hid hx; have HN := Lib.hid hN; have HB := Lib.hid hb
    have f0 := xf 0; have f1 := xf 1; have f2 := xf 2
    have hpl := (Array.getElem?_eq_some_iff.1 hx).1
    clear hx hN hb xf
    by_cases hkd : k = d
    · subst hkd
      have hE := fun (w1 : World) (hw1 : w1 = wo.alloc (.cells #[.int .i64 48, .slice none 0 0, .slice a (nest k).len cp] 42)) => encode_any (nest (k + 1)) (.slice (some ⟨wo.heap.size, 0, none⟩) 1 1) w1
        (by subst hw1; exact NsS.one (heap_alloc_new _ _) (by simp) ⟨by decide, by decide⟩ (BsS.nil0 _ _) (HN.out.keep fun b hs hl => ⟨Below.heap_alloc _ _ _ hl, by simp; omega⟩)) (by rw [nest_all]; omega) (nest_small k d2)
      have HE := Lib.hid hE
      clear hE
      obtain ⟨eb, heb⟩ : ∃ x, Hid (errOf (encP (nest (k + 1))) = x) := ⟨_, rfl⟩
      obtain ⟨bb, hbb⟩ : ∃ x, Hid (bytesOf (encP (nest (k + 1))) = x) := ⟨_, rfl⟩
      obtain ⟨ep, hep⟩ : ∃ x, Hid (errOf (parseP (nestB (k + 1) (k + 1)) true) = x) := ⟨_, rfl⟩
      go_wp2_with (go_at_call 23; refine (HE.out _ rfl).mono ?_; intro e w4 h4; obtain ⟨a4, c4, rfl, hv4, hb4⟩ := h4.parts heb.out hbb.out; have Hv4 := Lib.hid hv4; have k4 := Lib.hid ((HB.out.alloc HB.out.size _).trans (hb4.mono ((HB.out.alloc HB.out.size _).size))); clear h4 hv4 hb4)
      go_loopg [11, 12] (k + 1) (fun q o i wx => ∃ (j : Nat), j + q = k + 1 ∧ i = .int .i64 q ∧ OwnB wx w4.heap.size o (nestB (k + 1) j) ∧ Below w4.heap.size w4 wx)
      skip
      case atStart => exact ⟨0, by omega, by go_num, OwnB.nil _ _, Below.refl _ _⟩
      case round =>
        obtain ⟨wx, rfl⟩ : ∃ wo : World, wo = wr := ⟨_, rfl⟩
        obtain ⟨q2, rfl⟩ : ∃ q : Nat, q = gk := ⟨_, rfl⟩
        obtain ⟨j, hj, rfl, hO, hX⟩ := hrel
        have HO := Lib.hid hO; have KX := Lib.hid hX
        obtain ⟨oa, oc, rfl⟩ := hO.form
        have zx := hX.size
        have z4 := k4.out.size
        have hln := nestB_len (k + 1) j
        clear hO hX
        by_cases hq0 : q2 = 0
        · subst hq0
          obtain rfl : j = k + 1 := by omega
          skip
          clear hln
          go_upto_region 14 with (go_at_call 22; refine (parse_any (nestB (k + 1) (k + 1)) _ true _ ((HO.out.out (by rw [nestB_len]; omega) w4 (Nat.le_refl _)).keep fun b _ hl => ⟨rfl, hl⟩)).mono ?_; intro e w6 h6; obtain ⟨a6, c6, rfl, hb6⟩ := h6.parts hep.out rfl; have KB6 := Lib.hid hb6; clear h6 hb6)
          have s1 := str_run (Hv4.out.keep (w' := w6) (S' := fun _ => True) fun b hs hl => ⟨(KB6.out.block b (by omega)).trans (KX.out.block b hl), trivial⟩)
          have s2 := str_run ((HO.out.out (by rw [nestB_len]; omega) w4 (Nat.le_refl _)).keep (w' := w6) (S' := fun _ => True) fun b hs hl => ⟨KB6.out.block b hl, trivial⟩)
          by_cases h8 : k + 1 ≤ 8
          · skip
            obtain rfl : eb = 0 := by rw [← heb.out, (nest_enc (k + 1) (by omega) (by omega)).1 h8]; rfl
            obtain rfl : bb = nestB (k + 1) (k + 1) := by rw [← hbb.out, (nest_enc (k + 1) (by omega) (by omega)).1 h8]; rfl
            obtain rfl : ep = 0 := by rw [← hep.out, (nest_parse (k + 1) (by omega) (by omega)).1 h8]
            go_wp2_with fail
            go_loopg [15, 16, 17] (c + 250) (fun q o v i wy => ∃ j : Nat, j + q = c + 250 ∧ i = .int .i64 j ∧ Rows2 w6 wy o j v (flatB j))
            case atStart => exact ⟨0, by omega, by go_num, Rows2.start w6⟩
            case round =>
              obtain ⟨wy, rfl⟩ : ∃ wo : World, wo = wr := ⟨_, rfl⟩
              obtain ⟨q3, rfl⟩ : ∃ q : Nat, q = gk := ⟨_, rfl⟩
              obtain ⟨j, hj, rfl, hR⟩ := hrel
              have HR := Lib.hid hR
              obtain ⟨ra, rc, rfl⟩ := hR.fn.form
              obtain ⟨ba, bc, rfl⟩ := hR.ob.form
              have zy := hR.bel.size
              have hfl := flatB_len j
              clear hR
              by_cases hq3 : q3 = 0
              · subst hq3
                have hj1 : j ≤ c + 250 := by omega
                have hj2 : c + 250 ≤ j := by omega
                have hj3 : ((j : Int) == 250 + (c : Int)) = true := by rw [beq_iff_eq]; omega
                clear hj
                clear hfl
                by_cases h9 : c + 250 ≤ 256
                · skip
                  have e3 : errOf (encP (flat j)) = 0 := by rw [flat_enc j (by omega), if_neg (by omega)]; rfl
                  have e4 : errOf (parseP (flatB j) true) = 0 := by rw [flat_parse j (by omega), if_neg (by omega)]; rfl
                  have e5 : (nodesOf (parseP (flatB j) true)).len = j := by rw [flat_parse j (by omega), if_neg (by omega)]; exact flat_len j
                  have E3 := Lib.hid e3; have E4 := Lib.hid e4; have E5 := Lib.hid e5
                  clear e3 e4 e5
                  go_wp2_with (first
                    | (go_at_call 23; refine (encode_any (flat j) _ _ ((HR.out.fn.own.nss (by rw [flat_len]; omega)).keep fun b hs hl => ⟨rfl, hl⟩) (by rw [flat_all]; omega) (by rw [flat_encB, flatB_len]; omega)).mono ?_; intro e w8 h8'; obtain ⟨a8, c8, rfl, _, hb8⟩ := h8'.parts E3.out rfl; have K8 := Lib.hid hb8; clear h8' hb8)
                    | (go_at_call 22; refine (parse_any (flatB j) _ true _ ((HR.out.ob.out (by rw [flatB_len]; omega) w6 (Nat.le_refl _)).keep fun b hs hl => ⟨K8.out.block b hl, Nat.lt_of_lt_of_le hl K8.out.size⟩)).mono ?_; intro e w9 h9'; obtain ⟨a9, c9, rfl, hb9⟩ := h9'.parts E4.out E5.out; have K9 := Lib.hid hb9; clear h9' hb9)
                    | (go_at_call 11; refine (awake_any _).mono ?_; rintro e w7 ⟨rfl, hb7⟩; have K10 := Lib.hid hb7; clear hb7))
                  go_ret
                  have KR := HR.out.bel
                  have k6 := k4.out.trans ((KX.out.trans (KB6.out.mono zx)).mono z4)
                  have k7 := k6.trans (KR.mono k6.size)
                  have k8 := k7.trans (K8.out.mono k7.size)
                  have k9 := k8.trans (K9.out.mono k8.size)
                  exact ⟨by first | (simp; done) | (simp; omega), k9.trans (K10.out.mono k9.size)⟩
                · skip
                  have e3 : errOf (encP (flat j)) = 2 := by rw [flat_enc j (by omega), if_pos (by omega)]; rfl
                  have e4 : errOf (parseP (flatB j) true) = 2 := by rw [flat_parse j (by omega), if_pos (by omega)]; rfl
                  have e5 : (nodesOf (parseP (flatB j) true)).len = 0 := by rw [flat_parse j (by omega), if_pos (by omega)]; rfl
                  have E3 := Lib.hid e3; have E4 := Lib.hid e4; have E5 := Lib.hid e5
                  clear e3 e4 e5
                  go_wp2_with (first
                    | (go_at_call 23; refine (encode_any (flat j) _ _ ((HR.out.fn.own.nss (by rw [flat_len]; omega)).keep fun b hs hl => ⟨rfl, hl⟩) (by rw [flat_all]; omega) (by rw [flat_encB, flatB_len]; omega)).mono ?_; intro e w8 h8'; obtain ⟨a8, c8, rfl, _, hb8⟩ := h8'.parts E3.out rfl; have K8 := Lib.hid hb8; clear h8' hb8)
                    | (go_at_call 22; refine (parse_any (flatB j) _ true _ ((HR.out.ob.out (by rw [flatB_len]; omega) w6 (Nat.le_refl _)).keep fun b hs hl => ⟨K8.out.block b hl, Nat.lt_of_lt_of_le hl K8.out.size⟩)).mono ?_; intro e w9 h9'; obtain ⟨a9, c9, rfl, hb9⟩ := h9'.parts E4.out E5.out; have K9 := Lib.hid hb9; clear h9' hb9)
                    | (go_at_call 11; refine (awake_any _).mono ?_; rintro e w7 ⟨rfl, hb7⟩; have K10 := Lib.hid hb7; clear hb7))
                  go_ret
                  have KR := HR.out.bel
                  have k6 := k4.out.trans ((KX.out.trans (KB6.out.mono zx)).mono z4)
                  have k7 := k6.trans (KR.mono k6.size)
                  have k8 := k7.trans (K8.out.mono k7.size)
                  have k9 := k8.trans (K9.out.mono k8.size)
                  exact ⟨by first | (simp; done) | (simp; omega), k9.trans (K10.out.mono k9.size)⟩
              · have hq4 : 0 < q3 := by omega
                clear hq3
                have hj5 : j ≤ 1000 := by omega
                clear hfl
                go_wp2_with (first
                  | (at_builtin; (with_reducible refine wpList_flat rfl (.tmp 88) (.tmp 90) rfl w6.heap.size (.slice ra j rc) j rfl HR.out.fn _ wy.heap.size rfl rfl (by omega) zy ?_); intro o7 w7 g1 g2 g3 g4; have H7 := Lib.hid (HR.out.node g1 g2 g3 g4); have z7 := H7.out.bel.size; clear g1 g2 g3 g4)
                  | (at_builtin; (with_reducible refine wpList_more rfl (.tmp 92) (.tmp 93) rfl w6.heap.size (.slice ba (flatB j).length bc) (flatB j) rfl (H7.out.alloc _).ob (some ⟨w7.heap.size, 0, none⟩) 2 2 [4, 0] _ rfl (pair_lit w7 4 0 _ 4 0 rfl rfl) (by rw [flatB_len]; simp; omega) (by simp; omega) ?_); intro v8 w8 hgr; have H8 := Lib.hid ((H7.out.alloc _).bytes hgr); clear hgr))
                go_roundg (q3 - 1)
                case measure => omega
                case rel => exact ⟨j + 1, by omega, by go_num, H8.out⟩
          · skip
            obtain rfl : eb = 7 := by rw [← heb.out, (nest_enc (k + 1) (by omega) (by omega)).2 (by omega)]; rfl
            obtain rfl : ep = 7 := by rw [← hep.out, (nest_parse (k + 1) (by omega) (by omega)).2 (by omega)]
            go_wp2_with fail
            go_loopg [15, 16, 17] (c + 250) (fun q o v i wy => ∃ j : Nat, j + q = c + 250 ∧ i = .int .i64 j ∧ Rows2 w6 wy o j v (flatB j))
            case atStart => exact ⟨0, by omega, by go_num, Rows2.start w6⟩
            case round =>
              obtain ⟨wy, rfl⟩ : ∃ wo : World, wo = wr := ⟨_, rfl⟩
              obtain ⟨q3, rfl⟩ : ∃ q : Nat, q = gk := ⟨_, rfl⟩
              obtain ⟨j, hj, rfl, hR⟩ := hrel
              have HR := Lib.hid hR
              obtain ⟨ra, rc, rfl⟩ := hR.fn.form
              obtain ⟨ba, bc, rfl⟩ := hR.ob.form
              have zy := hR.bel.size
              have hfl := flatB_len j
              clear hR
              by_cases hq3 : q3 = 0
              · subst hq3
                have hj1 : j ≤ c + 250 := by omega
                have hj2 : c + 250 ≤ j := by omega
                have hj3 : ((j : Int) == 250 + (c : Int)) = true := by rw [beq_iff_eq]; omega
                clear hj
                clear hfl
                by_cases h9 : c + 250 ≤ 256
                · skip
                  have e3 : errOf (encP (flat j)) = 0 := by rw [flat_enc j (by omega), if_neg (by omega)]; rfl
                  have e4 : errOf (parseP (flatB j) true) = 0 := by rw [flat_parse j (by omega), if_neg (by omega)]; rfl
                  have e5 : (nodesOf (parseP (flatB j) true)).len = j := by rw [flat_parse j (by omega), if_neg (by omega)]; exact flat_len j
                  have E3 := Lib.hid e3; have E4 := Lib.hid e4; have E5 := Lib.hid e5
                  clear e3 e4 e5
                  go_wp2_with (first
                    | (go_at_call 23; refine (encode_any (flat j) _ _ ((HR.out.fn.own.nss (by rw [flat_len]; omega)).keep fun b hs hl => ⟨rfl, hl⟩) (by rw [flat_all]; omega) (by rw [flat_encB, flatB_len]; omega)).mono ?_; intro e w8 h8'; obtain ⟨a8, c8, rfl, _, hb8⟩ := h8'.parts E3.out rfl; have K8 := Lib.hid hb8; clear h8' hb8)
                    | (go_at_call 22; refine (parse_any (flatB j) _ true _ ((HR.out.ob.out (by rw [flatB_len]; omega) w6 (Nat.le_refl _)).keep fun b hs hl => ⟨K8.out.block b hl, Nat.lt_of_lt_of_le hl K8.out.size⟩)).mono ?_; intro e w9 h9'; obtain ⟨a9, c9, rfl, hb9⟩ := h9'.parts E4.out E5.out; have K9 := Lib.hid hb9; clear h9' hb9)
                    | (go_at_call 11; refine (awake_any _).mono ?_; rintro e w7 ⟨rfl, hb7⟩; have K10 := Lib.hid hb7; clear hb7))
                  go_ret
                  have KR := HR.out.bel
                  have k6 := k4.out.trans ((KX.out.trans (KB6.out.mono zx)).mono z4)
                  have k7 := k6.trans (KR.mono k6.size)
                  have k8 := k7.trans (K8.out.mono k7.size)
                  have k9 := k8.trans (K9.out.mono k8.size)
                  exact ⟨by first | (simp; done) | (simp; omega), k9.trans (K10.out.mono k9.size)⟩
                · skip
                  have e3 : errOf (encP (flat j)) = 2 := by rw [flat_enc j (by omega), if_pos (by omega)]; rfl
                  have e4 : errOf (parseP (flatB j) true) = 2 := by rw [flat_parse j (by omega), if_pos (by omega)]; rfl
                  have e5 : (nodesOf (parseP (flatB j) true)).len = 0 := by rw [flat_parse j (by omega), if_pos (by omega)]; rfl
                  have E3 := Lib.hid e3; have E4 := Lib.hid e4; have E5 := Lib.hid e5
                  clear e3 e4 e5
                  go_wp2_with (first
                    | (go_at_call 23; refine (encode_any (flat j) _ _ ((HR.out.fn.own.nss (by rw [flat_len]; omega)).keep fun b hs hl => ⟨rfl, hl⟩) (by rw [flat_all]; omega) (by rw [flat_encB, flatB_len]; omega)).mono ?_; intro e w8 h8'; obtain ⟨a8, c8, rfl, _, hb8⟩ := h8'.parts E3.out rfl; have K8 := Lib.hid hb8; clear h8' hb8)
                    | (go_at_call 22; refine (parse_any (flatB j) _ true _ ((HR.out.ob.out (by rw [flatB_len]; omega) w6 (Nat.le_refl _)).keep fun b hs hl => ⟨K8.out.block b hl, Nat.lt_of_lt_of_le hl K8.out.size⟩)).mono ?_; intro e w9 h9'; obtain ⟨a9, c9, rfl, hb9⟩ := h9'.parts E4.out E5.out; have K9 := Lib.hid hb9; clear h9' hb9)
                    | (go_at_call 11; refine (awake_any _).mono ?_; rintro e w7 ⟨rfl, hb7⟩; have K10 := Lib.hid hb7; clear hb7))
                  go_ret
                  have KR := HR.out.bel
                  have k6 := k4.out.trans ((KX.out.trans (KB6.out.mono zx)).mono z4)
                  have k7 := k6.trans (KR.mono k6.size)
                  have k8 := k7.trans (K8.out.mono k7.size)
                  have k9 := k8.trans (K9.out.mono k8.size)
                  exact ⟨by first | (simp; done) | (simp; omega), k9.trans (K10.out.mono k9.size)⟩
              · have hq4 : 0 < q3 := by omega
                clear hq3
                have hj5 : j ≤ 1000 := by omega
                clear hfl
                go_wp2_with (first
                  | (at_builtin; (with_reducible refine wpList_flat rfl (.tmp 88) (.tmp 90) rfl w6.heap.size (.slice ra j rc) j rfl HR.out.fn _ wy.heap.size rfl rfl (by omega) zy ?_); intro o7 w7 g1 g2 g3 g4; have H7 := Lib.hid (HR.out.node g1 g2 g3 g4); have z7 := H7.out.bel.size; clear g1 g2 g3 g4)
                  | (at_builtin; (with_reducible refine wpList_more rfl (.tmp 92) (.tmp 93) rfl w6.heap.size (.slice ba (flatB j).length bc) (flatB j) rfl (H7.out.alloc _).ob (some ⟨w7.heap.size, 0, none⟩) 2 2 [4, 0] _ rfl (pair_lit w7 4 0 _ 4 0 rfl rfl) (by rw [flatB_len]; simp; omega) (by simp; omega) ?_); intro v8 w8 hgr; have H8 := Lib.hid ((H7.out.alloc _).bytes hgr); clear hgr))
                go_roundg (q3 - 1)
                case measure => omega
                case rel => exact ⟨j + 1, by omega, by go_num, H8.out⟩
        · have hq1 : 0 < q2 := by omega
          clear hq0
          obtain ⟨z, hz⟩ : ∃ z : Int, Hid (z = 2 * ((q2 : Int) - 1)) := ⟨_, rfl⟩
          go_wp2_with (at_builtin; (rw [show (2 * ((q2 : Int) - 1)) = z from hz.out.symm]); (with_reducible refine wpList_more rfl (.tmp 48) (.tmp 53) rfl w4.heap.size (.slice oa (nestB (k + 1) j).length oc) (nestB (k + 1) j) rfl (HO.out.alloc _) (some ⟨wx.heap.size, 0, none⟩) 2 2 [48, ofI z] _ rfl (pair_lit wx 48 z _ 48 (ofI z) rfl (val_small (by have := hz.out; omega) (by have := hz.out; omega))) (by simp; omega) (by simp; omega) ?_); intro v5 w5 hgr; have H5 := Lib.hid hgr; clear hgr)
          go_roundg (q2 - 1)
          case measure => omega
          case rel =>
            obtain ⟨g1, g2, _, _⟩ := H5.out
            refine ⟨j + 1, by omega, by go_num, ?_, (KX.out.alloc zx _).trans g2⟩
            have e : nestB (k + 1) (j + 1) = nestB (k + 1) j ++ [48, ofI z] := by
              show nestB (k + 1) j ++ _ = _
              rw [hz.out, show (((k + 1 : Nat) : Int) - j - 1) = (q2 : Int) - 1 by omega]
            rw [e]; exact g1
    · have hkd2 : k < d := by omega
      clear hkd
      go_wp2_with fail
      go_roundg (gk - 1)
      case measure => omega
      case rel =>
        refine ⟨k + 1, some ⟨wo.heap.size, 0, none⟩, 1, by omega, by omega, by go_num, ?_, ?_, ?_⟩
        · exact (Below.heap_alloc _ _ _ (by simpa [World.setCell] using hpl)).trans (three_set2 (three_set1 (three_set0 HX.out)))
        · refine NsS.one (ty := 42) (x := .slice none 0 0) (y := .slice a (nest k).len cp) ?_ ⟨hpl, by simp [World.setCell]⟩ ⟨by decide, by decide⟩ (BsS.nil0 _ _) (HN.out.keep fun b hs hl => ⟨?_, ⟨hs.1, by simp [World.setCell]; omega⟩⟩)
          · exact new_at _ _ _ (by simp [World.setCell])
          · rw [Below.heap_alloc _ _ _ (by simpa [World.setCell] using hl), Below.heap_setCell _ _ _ _ (by show b ≠ w.heap.size; omega), Below.heap_setCell _ _ _ _ (by show b ≠ w.heap.size; omega), Below.heap_setCell _ _ _ _ (by show b ≠ w.heap.size; omega)]
        · exact (((HB.out.setCell (p := ⟨w.heap.size, 0, none⟩) (Nat.le_refl _) _).setCell (p := ⟨w.heap.size, 1, none⟩) (Nat.le_refl _) _).setCell (p := ⟨w.heap.size, 2, none⟩) (Nat.le_refl _) _).alloc (by simpa [World.setCell] using Nat.le_of_lt hpl) _
end Go.Proofs.Ytljalnfjneeieaa
