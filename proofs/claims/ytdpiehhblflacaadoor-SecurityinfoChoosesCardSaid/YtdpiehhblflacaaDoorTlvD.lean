/- Layer 2: the walk of object, over contracts of objects and kids. -/
import Derived.Test.YtdpiehhblflacaaDoorQTlvA
import Derived.Test.YtdpiehhblflacaaDoorObjP
import Derived.StillTailTactics
namespace Go.Proofs.YtdpiehhblflacaaDoor
open Go.RowKit Go.Deep

set_option maxRecDepth 100000 in
set_option maxHeartbeats 8000000 in
theorem object_open (n : Nat) (hk : ListC 88 n true) (ho : ListC 55 n false) : ∀ (B : List UInt8) (bb bo bc p a e d c : Nat) (w : World),
  BsS w (· ≠ p) (.slice (some ⟨bb, bo, none⟩) B.length bc) B → e ≤ B.length → B.length ≤ 4096 → Rd w p (.slice (some ⟨bb, bo, none⟩) B.length bc) a false c → a ≤ e → e - a ≤ n + 1 → d ≤ 9 → c ≤ 256 → ∀ t k, tagP (rst B a e) = .ok (t, k) → tagC t = true →
  Calls Tryd.prog 79 #[.pointer (some ⟨p, 0, none⟩), .int .i64 e, .int .i64 d] w (ObjOut (objP false n (rst B a e) d c) w p (.slice (some ⟨bb, bo, none⟩) B.length bc) a false) := by
  intro B bb bo bc p a e d c w hB he hB4 hr ha hn hd hc
  have S0 := OSt.start hr
  have HB := Lib.hid hB
  have T := tag_any B bb bo bc p a e c false (w.alloc (.cells #[.int .i64 0, .slice none 0 0, .slice none 0 0] 53)) (S0.bytes hB) he S0.1 ha
  have HS0 := Lib.hid S0
  clear S0 hB hr
  intro t k ht htc
  rw [ht] at T
  obtain ⟨tv, k1, k2⟩ := tagP_ok ht
  rw [rst_len he] at k2
  have hin := tagV_in tv
  have HC := Lib.hid (fun w => cons_any t hin w)
  have HT := Lib.hid T
  have HL := fun (w1 : World) (h1 : BsS w1 (· ≠ p) (.slice (some ⟨bb, bo, none⟩) B.length bc) B) (h2 : Rd w1 p (.slice (some ⟨bb, bo, none⟩) B.length bc) (a + k) false c) => Lib.hid (rlen_any B bb bo bc p (a + k) e c false true w1 h1 he h2 (by omega))
  rw [htc] at HC
  have hob : (tagC t && !false) = true := by rw [htc]; rfl
  have HI := Lib.hid hin; have TC := Lib.hid htc
  clear T tv hin htc
  cases hs : sizeP (rst B (a + k) e) true false with
  | error er =>
    have E : Hid (objP false n (rst B a e) d c = .error er) := obj_e1 ht (by rw [hob, rst_drop]; exact hs)
    have n0 : (er != 0) = true := by simp [sizeP_err hs]
    have N0 := Lib.hid (sizeP_err hs)
    rw [hs] at HL
    clear hs ht hob
    go_enter Tryd.func79, Tryd.ntmps79
    go_wp2_with (first
      | (go_at_call 86; refine HT.out.mono ?_; intro e1 w1 h1; obtain ⟨rfl, hr1, hg1⟩ := NumOut.got h1; have S1 := Lib.hid (HS0.out.step hr1 hg1); clear h1 hr1 hg1; obtain ⟨z0, z1, z2⟩ := S1.out.zc; have f0 := S1.out.zf 0; have f1 := S1.out.zf 1; have f2 := S1.out.zf 2; have r0 := S1.out.1.c0; have r1 := S1.out.1.c1; have r2 := S1.out.1.c2; have r3 := S1.out.1.c3; have q1 := S1.out.1.fr 1; have q3 := S1.out.1.fr 3)
      | (go_at_call 71; refine (HC.out _).mono ?_; rintro e w' ⟨rfl, rfl⟩)
      | (go_at_call 87; refine (HL _ (S1.out.bytes HB.out) S1.out.1).out.mono ?_; intro e2 w2 h2; obtain ⟨rfl, ⟨a2, hr2⟩, hg2⟩ := NumOut.err h2; have S2 := Lib.hid (S1.out.step hr2 hg2); clear h2 hr2 hg2 z0 z1 z2 f0 f1 f2 r0 r1 r2 r3 q1 q3; obtain ⟨z0, z1, z2⟩ := S2.out.zc; have f0 := S2.out.zf 0; have f1 := S2.out.zf 1; have f2 := S2.out.zf 2))
    obtain ⟨y0, y1, y2⟩ := S2.out.finc 0 (.slice none 0 0) (.slice none 0 0)
    exact bodyPost_ret (v := .tuple #[.agg #[.int .i64 0, .slice none 0 0, .slice none 0 0], .int .i64 er]) (by simp [results, Tryd.results79, go_sem, y0, y1, y2]) rfl (S2.out.no 0 E.out N0.out)
  | ok y =>
    obtain ⟨m, j⟩ := y
    obtain ⟨j1, j2, m1, m2⟩ := sizeP_ok hs
    rw [rst_len he] at j2
    rw [hs] at HL
    have hs' : sizeP ((rst B a e).drop k) (tagC t && !false) false = .ok (m, j) := by rw [hob, rst_drop]; exact hs
    have HT2 := Lib.hid ht; have HS2 := Lib.hid hs'
    clear hs ht hob hs'
    by_cases h8 : 8 < d
    · have E : Hid (objP false n (rst B a e) d c = .error 7) := obj_e2 HT2.out HS2.out h8
      go_enter Tryd.func79, Tryd.ntmps79
      go_wp2_with (first
        | (go_at_call 86; refine HT.out.mono ?_; intro e1 w1 h1; obtain ⟨rfl, hr1, hg1⟩ := NumOut.got h1; have S1 := Lib.hid (HS0.out.step hr1 hg1); clear h1 hr1 hg1; obtain ⟨z0, z1, z2⟩ := S1.out.zc; have f0 := S1.out.zf 0; have f1 := S1.out.zf 1; have f2 := S1.out.zf 2; have r0 := S1.out.1.c0; have r1 := S1.out.1.c1; have r2 := S1.out.1.c2; have r3 := S1.out.1.c3; have q1 := S1.out.1.fr 1; have q3 := S1.out.1.fr 3)
        | (go_at_call 71; refine (HC.out _).mono ?_; rintro e w' ⟨rfl, rfl⟩)
        | (go_at_call 87; refine (HL _ (S1.out.bytes HB.out) S1.out.1).out.mono ?_; intro e2 w2 h2; obtain ⟨rfl, hr2, hg2⟩ := NumOut.got h2; have S2 := Lib.hid (S1.out.step hr2 hg2); clear h2 hr2 hg2 z0 z1 z2 f0 f1 f2 r0 r1 r2 r3 q1 q3; obtain ⟨z0, z1, z2⟩ := S2.out.zc; have f0 := S2.out.zf 0; have f1 := S2.out.zf 1; have f2 := S2.out.zf 2; have r0 := S2.out.1.c0; have r1 := S2.out.1.c1; have r2 := S2.out.1.c2; have r3 := S2.out.1.c3; have q1 := S2.out.1.fr 1; have q3 := S2.out.1.fr 3))
      obtain ⟨y0, y1, y2⟩ := S2.out.cnt.finc 0 (.slice none 0 0) (.slice none 0 0)
      exact bodyPost_ret (v := .tuple #[.agg #[.int .i64 0, .slice none 0 0, .slice none 0 0], .int .i64 7]) (by simp [results, Tryd.results79, go_sem, y0, y1, y2]) rfl (S2.out.cnt.no 0 E.out (by decide))
    · by_cases h9 : 256 < c + 1
      · have E : Hid (objP false n (rst B a e) d c = .error 2) := obj_e3 HT2.out HS2.out h8 h9
        go_enter Tryd.func79, Tryd.ntmps79
        go_wp2_with (first
          | (go_at_call 86; refine HT.out.mono ?_; intro e1 w1 h1; obtain ⟨rfl, hr1, hg1⟩ := NumOut.got h1; have S1 := Lib.hid (HS0.out.step hr1 hg1); clear h1 hr1 hg1; obtain ⟨z0, z1, z2⟩ := S1.out.zc; have f0 := S1.out.zf 0; have f1 := S1.out.zf 1; have f2 := S1.out.zf 2; have r0 := S1.out.1.c0; have r1 := S1.out.1.c1; have r2 := S1.out.1.c2; have r3 := S1.out.1.c3; have q1 := S1.out.1.fr 1; have q3 := S1.out.1.fr 3)
          | (go_at_call 71; refine (HC.out _).mono ?_; rintro e w' ⟨rfl, rfl⟩)
          | (go_at_call 87; refine (HL _ (S1.out.bytes HB.out) S1.out.1).out.mono ?_; intro e2 w2 h2; obtain ⟨rfl, hr2, hg2⟩ := NumOut.got h2; have S2 := Lib.hid (S1.out.step hr2 hg2); clear h2 hr2 hg2 z0 z1 z2 f0 f1 f2 r0 r1 r2 r3 q1 q3; obtain ⟨z0, z1, z2⟩ := S2.out.zc; have f0 := S2.out.zf 0; have f1 := S2.out.zf 1; have f2 := S2.out.zf 2; have r0 := S2.out.1.c0; have r1 := S2.out.1.c1; have r2 := S2.out.1.c2; have r3 := S2.out.1.c3; have q1 := S2.out.1.fr 1; have q3 := S2.out.1.fr 3))
        obtain ⟨y0, y1, y2⟩ := S2.out.cnt.finc 0 (.slice none 0 0) (.slice none 0 0)
        exact bodyPost_ret (v := .tuple #[.agg #[.int .i64 0, .slice none 0 0, .slice none 0 0], .int .i64 2]) (by simp [results, Tryd.results79, go_sem, y0, y1, y2]) rfl (S2.out.cnt.no 0 E.out (by decide))
      · by_cases h10 : (e : Int) - ((a + k + j : Nat) : Int) < m
        · have E : Hid (objP false n (rst B a e) d c = .error 6) := obj_e4 HT2.out HS2.out h8 h9 (by rw [rst_drop, rst_len he]; omega)
          go_enter Tryd.func79, Tryd.ntmps79
          go_wp2_with (first
            | (go_at_call 86; refine HT.out.mono ?_; intro e1 w1 h1; obtain ⟨rfl, hr1, hg1⟩ := NumOut.got h1; have S1 := Lib.hid (HS0.out.step hr1 hg1); clear h1 hr1 hg1; obtain ⟨z0, z1, z2⟩ := S1.out.zc; have f0 := S1.out.zf 0; have f1 := S1.out.zf 1; have f2 := S1.out.zf 2; have r0 := S1.out.1.c0; have r1 := S1.out.1.c1; have r2 := S1.out.1.c2; have r3 := S1.out.1.c3; have q1 := S1.out.1.fr 1; have q3 := S1.out.1.fr 3)
            | (go_at_call 71; refine (HC.out _).mono ?_; rintro e w' ⟨rfl, rfl⟩)
            | (go_at_call 87; refine (HL _ (S1.out.bytes HB.out) S1.out.1).out.mono ?_; intro e2 w2 h2; obtain ⟨rfl, hr2, hg2⟩ := NumOut.got h2; have S2 := Lib.hid (S1.out.step hr2 hg2); clear h2 hr2 hg2 z0 z1 z2 f0 f1 f2 r0 r1 r2 r3 q1 q3; obtain ⟨z0, z1, z2⟩ := S2.out.zc; have f0 := S2.out.zf 0; have f1 := S2.out.zf 1; have f2 := S2.out.zf 2; have r0 := S2.out.1.c0; have r1 := S2.out.1.c1; have r2 := S2.out.1.c2; have r3 := S2.out.1.c3; have q1 := S2.out.1.fr 1; have q3 := S2.out.1.fr 3))
          obtain ⟨y0, y1, y2⟩ := S2.out.cnt.finc 0 (.slice none 0 0) (.slice none 0 0)
          exact bodyPost_ret (v := .tuple #[.agg #[.int .i64 0, .slice none 0 0, .slice none 0 0], .int .i64 6]) (by simp [results, Tryd.results79, go_sem, y0, y1, y2]) rfl (S2.out.cnt.no 0 E.out (by decide))
        · have h3' : ¬ (((rst B a e).drop (k + j)).length : Int) < m := by rw [rst_drop, rst_len he]; omega
          have H3 := Lib.hid h3'; clear h3'
          have h11 : m ≤ (e : Int) - (a + k + j) := by omega
          clear h10
          by_cases hm : m < 0
          · skip
            have em : (m == -1) = true := by simp; omega
            obtain ⟨g, hg⟩ : ∃ g, g = a + k + j := ⟨_, rfl⟩
            have hge : g ≤ e := by omega
            have HG := Lib.hid hg
            have hl0 := listP_sound false n (rst B g e) (d + 1) (c + 1) true (by omega)
            have HF := fun (w3 : World) (h1 : BsS w3 (· ≠ p) (.slice (some ⟨bb, bo, none⟩) B.length bc) B) (h2 : Rd w3 p (.slice (some ⟨bb, bo, none⟩) B.length bc) g false (c + 1)) =>
              Lib.hid (show Calls Tryd.prog 88 #[.pointer (some ⟨p, 0, none⟩), .int .i64 (e : Int), .int .i64 ((d : Int) + 1)] w3 (ListOut (listP false n (rst B g e) (d + 1) (c + 1) true) w3 p (.slice (some ⟨bb, bo, none⟩) B.length bc) g false) from
                hk B bb bo bc p g e (d + 1) (c + 1) false w3 h1 (by omega) hB4 h2 (by omega) (by omega) (by omega) (by omega))
            clear hg
            cases hl : listP false n (rst B g e) (d + 1) (c + 1) true with
            | error er =>
              have E : Hid (objP false n (rst B a e) d c = .error er) := obj_ie HT2.out HS2.out h8 h9 (by have := H3.out; omega) hm (by rw [rst_drop, ← Nat.add_assoc, ← HG.out]; exact hl)
              have ner : er ≠ 0 := hl0.2 er hl
              have n0 : (er != 0) = true := by simp [ner]
              have N0 := Lib.hid ner
              rw [hl] at HF
              clear hl hl0 ner
              go_enter Tryd.func79, Tryd.ntmps79
              go_upto_region 19 with (first
                | (go_at_call 86; refine HT.out.mono ?_; intro e1 w1 h1; obtain ⟨rfl, hr1, hg1⟩ := NumOut.got h1; have S1 := Lib.hid (HS0.out.step hr1 hg1); clear h1 hr1 hg1; obtain ⟨z0, z1, z2⟩ := S1.out.zc; have f0 := S1.out.zf 0; have f1 := S1.out.zf 1; have f2 := S1.out.zf 2; have r0 := S1.out.1.c0; have r1 := S1.out.1.c1; have r2 := S1.out.1.c2; have r3 := S1.out.1.c3; have q1 := S1.out.1.fr 1; have q3 := S1.out.1.fr 3)
                | (go_at_call 71; refine (HC.out _).mono ?_; rintro e w' ⟨rfl, rfl⟩)
                | (go_at_call 87; refine (HL _ (S1.out.bytes HB.out) S1.out.1).out.mono ?_; intro e2 w2 h2; obtain ⟨rfl, hr2, hg2⟩ := NumOut.got h2; have S2 := Lib.hid (S1.out.step hr2 hg2); clear h2 hr2 hg2 z0 z1 z2 f0 f1 f2 r0 r1 r2 r3 q1 q3; obtain ⟨z0, z1, z2⟩ := S2.out.zc; have f0 := S2.out.zf 0; have f1 := S2.out.zf 1; have f2 := S2.out.zf 2; have r0 := S2.out.1.c0; have r1 := S2.out.1.c1; have r2 := S2.out.1.c2; have r3 := S2.out.1.c3; have q1 := S2.out.1.fr 1; have q3 := S2.out.1.fr 3))
              have S3 := Lib.hid (S2.out.cnt.alloc (.cells #[.int .i64 t, .slice none 0 0, .slice none 0 0] 53))
              have X3 := Lib.hid (heap_alloc_new (w2.setCell ⟨p, 3, none⟩ (.int .i64 ((c : Int) + 1))) (.cells #[.int .i64 t, .slice none 0 0, .slice none 0 0] 53))
              obtain ⟨w3, hw3⟩ : ∃ w3, w3 = (w2.setCell ⟨p, 3, none⟩ (.int .i64 ((c : Int) + 1))).alloc (.cells #[.int .i64 t, .slice none 0 0, .slice none 0 0] 53) := ⟨_, rfl⟩
              have hX : (w2.setCell ⟨p, 3, none⟩ (.int .i64 ((c : Int) + 1))).heap.size = w2.heap.size := by simp [World.setCell]
              rw [hX] at X3
              rw [← hw3] at S3 X3 ⊢
              rw [← HG.out] at S3
              have hlt2 := S2.out.lt
              have hpN := S3.out.2.2.2
              clear hw3 hX z0 z1 z2 f0 f1 f2 r0 r1 r2 r3 q1 q3
              obtain ⟨x0, x1, x2, xf⟩ := three X3.out
              have xf1 := xf 2
              clear xf
              obtain ⟨z0, z1, z2⟩ := S3.out.zc; have f0 := S3.out.zf 0; have f1 := S3.out.zf 1; have f2 := S3.out.zf 2; have r0 := S3.out.1.c0; have r1 := S3.out.1.c1; have r2 := S3.out.1.c2; have r3 := S3.out.1.c3; have q1 := S3.out.1.fr 1; have q3 := S3.out.1.fr 3
              go_wp2_with (go_at_call 88; refine (HF _ (S3.out.bytes HB.out) S3.out.1).out.mono ?_; intro e4 w4 h4; obtain ⟨_, rfl, ⟨a4, c4, hr4⟩, hg4⟩ := h4; have S4 := Lib.hid (S3.out.step hr4 hg4); have X4 := Lib.hid ((hg4.block _ (Array.getElem?_eq_some_iff.1 X3.out).1 (by intro e; injection e with e; omega)).trans X3.out); clear hr4 hg4 z0 z1 z2 f0 f1 f2 r0 r1 r2 r3 q1 q3 x0 x1 x2 xf1; obtain ⟨x0, x1, x2, xf⟩ := three X4.out; have xf1 := xf 2; clear xf; obtain ⟨z0, z1, z2⟩ := S4.out.zc; have f0 := S4.out.zf 0; have f1 := S4.out.zf 1; have f2 := S4.out.zf 2; have r0 := S4.out.1.c0; have r1 := S4.out.1.c1; have r2 := S4.out.1.c2; have r3 := S4.out.1.c3; have q1 := S4.out.1.fr 1; have q3 := S4.out.1.fr 3)
              have S5 := S4.out.other hlt2 2 (.slice none 0 0)
              obtain ⟨y0, y1, y2⟩ := S5.finc t (.slice none 0 0) (.slice none 0 0)
              exact bodyPost_ret (v := .tuple #[.agg #[.int .i64 t, .slice none 0 0, .slice none 0 0], .int .i64 er]) (by simp [results, Tryd.results79, go_sem, y0, y1, y2]) rfl (S5.no t E.out N0.out)
            | ok r =>
              have E : Hid (objP false n (rst B a e) d c = .ok ⟨t, [], r.list, k + j + r.used, r.count⟩) := obj_i HT2.out HS2.out h8 h9 (by have := H3.out; omega) hm (by rw [rst_drop, ← Nat.add_assoc, ← HG.out]; exact hl)
              have hu := hl0.1 r hl
              have HU := Lib.hid hu
              clear hu
              rw [hl] at HF
              clear hl hl0
              go_enter Tryd.func79, Tryd.ntmps79
              go_upto_region 19 with (first
                | (go_at_call 86; refine HT.out.mono ?_; intro e1 w1 h1; obtain ⟨rfl, hr1, hg1⟩ := NumOut.got h1; have S1 := Lib.hid (HS0.out.step hr1 hg1); clear h1 hr1 hg1; obtain ⟨z0, z1, z2⟩ := S1.out.zc; have f0 := S1.out.zf 0; have f1 := S1.out.zf 1; have f2 := S1.out.zf 2; have r0 := S1.out.1.c0; have r1 := S1.out.1.c1; have r2 := S1.out.1.c2; have r3 := S1.out.1.c3; have q1 := S1.out.1.fr 1; have q3 := S1.out.1.fr 3)
                | (go_at_call 71; refine (HC.out _).mono ?_; rintro e w' ⟨rfl, rfl⟩)
                | (go_at_call 87; refine (HL _ (S1.out.bytes HB.out) S1.out.1).out.mono ?_; intro e2 w2 h2; obtain ⟨rfl, hr2, hg2⟩ := NumOut.got h2; have S2 := Lib.hid (S1.out.step hr2 hg2); clear h2 hr2 hg2 z0 z1 z2 f0 f1 f2 r0 r1 r2 r3 q1 q3; obtain ⟨z0, z1, z2⟩ := S2.out.zc; have f0 := S2.out.zf 0; have f1 := S2.out.zf 1; have f2 := S2.out.zf 2; have r0 := S2.out.1.c0; have r1 := S2.out.1.c1; have r2 := S2.out.1.c2; have r3 := S2.out.1.c3; have q1 := S2.out.1.fr 1; have q3 := S2.out.1.fr 3))
              have S3 := Lib.hid (S2.out.cnt.alloc (.cells #[.int .i64 t, .slice none 0 0, .slice none 0 0] 53))
              have X3 := Lib.hid (heap_alloc_new (w2.setCell ⟨p, 3, none⟩ (.int .i64 ((c : Int) + 1))) (.cells #[.int .i64 t, .slice none 0 0, .slice none 0 0] 53))
              obtain ⟨w3, hw3⟩ : ∃ w3, w3 = (w2.setCell ⟨p, 3, none⟩ (.int .i64 ((c : Int) + 1))).alloc (.cells #[.int .i64 t, .slice none 0 0, .slice none 0 0] 53) := ⟨_, rfl⟩
              have hX : (w2.setCell ⟨p, 3, none⟩ (.int .i64 ((c : Int) + 1))).heap.size = w2.heap.size := by simp [World.setCell]
              rw [hX] at X3
              rw [← hw3] at S3 X3 ⊢
              rw [← HG.out] at S3
              have hlt2 := S2.out.lt
              have hpN := S3.out.2.2.2
              clear hw3 hX z0 z1 z2 f0 f1 f2 r0 r1 r2 r3 q1 q3
              obtain ⟨x0, x1, x2, xf⟩ := three X3.out
              have xf1 := xf 2
              clear xf
              obtain ⟨z0, z1, z2⟩ := S3.out.zc; have f0 := S3.out.zf 0; have f1 := S3.out.zf 1; have f2 := S3.out.zf 2; have r0 := S3.out.1.c0; have r1 := S3.out.1.c1; have r2 := S3.out.1.c2; have r3 := S3.out.1.c3; have q1 := S3.out.1.fr 1; have q3 := S3.out.1.fr 3
              go_wp2_with (go_at_call 88; refine (HF _ (S3.out.bytes HB.out) S3.out.1).out.mono ?_; intro e4 w4 h4; obtain ⟨v4, rfl, hv4, hr4, hg4⟩ := h4; obtain ⟨va, vc, rfl⟩ := NsS.form2 hv4; have Hv4 := Lib.hid hv4; have S4 := Lib.hid (S3.out.step hr4 hg4); have X4 := Lib.hid ((hg4.block _ (Array.getElem?_eq_some_iff.1 X3.out).1 (by intro e; injection e with e; omega)).trans X3.out); clear hv4 hr4 hg4 z0 z1 z2 f0 f1 f2 r0 r1 r2 r3 q1 q3 x0 x1 x2 xf1; obtain ⟨x0, x1, x2, xf⟩ := three X4.out; have xf1 := xf 2; clear xf; obtain ⟨z0, z1, z2⟩ := S4.out.zc; have f0 := S4.out.zf 0; have f1 := S4.out.zf 1; have f2 := S4.out.zf 2; have r0 := S4.out.1.c0; have r1 := S4.out.1.c1; have r2 := S4.out.1.c2; have r3 := S4.out.1.c3; have q1 := S4.out.1.fr 1; have q3 := S4.out.1.fr 3)
              have S5 := S4.out.other hlt2 2 (.slice va r.list.len vc)
              obtain ⟨y0, y1, y2⟩ := S5.finc t (.slice none 0 0) (.slice va r.list.len vc)
              have hX3 := (Array.getElem?_eq_some_iff.1 X3.out).1
              exact bodyPost_ret (v := .tuple #[.agg #[.int .i64 t, .slice none 0 0, .slice va r.list.len vc], .int .i64 0]) (by simp [results, Tryd.results79, go_sem, y0, y1, y2]) rfl
                (S5.yes E.out (BsS.nil0 _ _) (Hv4.out.keep fun b hb _ => ⟨Below.heap_setCell _ _ _ _ (by have := hb.1; show b ≠ w2.heap.size; omega), by have := hb.1; omega, by simpa [World.setCell] using hb.2⟩) HI.out (by have := HG.out; simp only; omega) rfl)
          · have m0 : 0 ≤ m := by omega
            have em : (m == -1) = false := by simp; omega
            obtain ⟨u, rfl⟩ := Int.eq_ofNat_of_zero_le m0
            clear m0 m2
            obtain ⟨g, hg⟩ : ∃ g, g = a + k + j := ⟨_, rfl⟩
            have hgu : g + u ≤ e := by omega
            have b1 : (g : Int) + u ≤ 9223372036854775807 := by omega
            have HG := Lib.hid hg
            have hl0 := listP_sound false n (rst B g (g + u)) (d + 1) (c + 1) false (by omega)
            have HF := fun (w3 : World) (h1 : BsS w3 (· ≠ p) (.slice (some ⟨bb, bo, none⟩) B.length bc) B) (h2 : Rd w3 p (.slice (some ⟨bb, bo, none⟩) B.length bc) g false (c + 1)) =>
              Lib.hid (show Calls Tryd.prog 55 #[.pointer (some ⟨p, 0, none⟩), .int .i64 ((g : Int) + u), .int .i64 ((d : Int) + 1)] w3 (ListOut (listP false n (rst B g (g + u)) (d + 1) (c + 1) false) w3 p (.slice (some ⟨bb, bo, none⟩) B.length bc) g false) from
                ho B bb bo bc p g (g + u) (d + 1) (c + 1) false w3 h1 (by omega) hB4 h2 (by omega) (by omega) (by omega) (by omega))
            clear hg
            cases hl : listP false n (rst B g (g + u)) (d + 1) (c + 1) false with
            | error er =>
              have E : Hid (objP false n (rst B a e) d c = .error er) := obj_ce HT2.out HS2.out h8 h9 (by have := H3.out; omega) (by omega) TC.out (by rw [rst_drop, rst_take _ _ _ _ (by have := HG.out; simp; omega), Int.toNat_natCast, ← Nat.add_assoc, ← HG.out]; exact hl)
              have ner : er ≠ 0 := hl0.2 er hl
              have n0 : (er != 0) = true := by simp [ner]
              have N0 := Lib.hid ner
              rw [hl] at HF
              clear hl hl0 ner
              go_enter Tryd.func79, Tryd.ntmps79
              go_upto_region 21 with (first
                | (go_at_call 86; refine HT.out.mono ?_; intro e1 w1 h1; obtain ⟨rfl, hr1, hg1⟩ := NumOut.got h1; have S1 := Lib.hid (HS0.out.step hr1 hg1); clear h1 hr1 hg1; obtain ⟨z0, z1, z2⟩ := S1.out.zc; have f0 := S1.out.zf 0; have f1 := S1.out.zf 1; have f2 := S1.out.zf 2; have r0 := S1.out.1.c0; have r1 := S1.out.1.c1; have r2 := S1.out.1.c2; have r3 := S1.out.1.c3; have q1 := S1.out.1.fr 1; have q3 := S1.out.1.fr 3)
                | (go_at_call 71; refine (HC.out _).mono ?_; rintro e w' ⟨rfl, rfl⟩)
                | (go_at_call 87; refine (HL _ (S1.out.bytes HB.out) S1.out.1).out.mono ?_; intro e2 w2 h2; obtain ⟨rfl, hr2, hg2⟩ := NumOut.got h2; have S2 := Lib.hid (S1.out.step hr2 hg2); clear h2 hr2 hg2 z0 z1 z2 f0 f1 f2 r0 r1 r2 r3 q1 q3; obtain ⟨z0, z1, z2⟩ := S2.out.zc; have f0 := S2.out.zf 0; have f1 := S2.out.zf 1; have f2 := S2.out.zf 2; have r0 := S2.out.1.c0; have r1 := S2.out.1.c1; have r2 := S2.out.1.c2; have r3 := S2.out.1.c3; have q1 := S2.out.1.fr 1; have q3 := S2.out.1.fr 3))
              have S3 := Lib.hid (S2.out.cnt.alloc (.cells #[.int .i64 t, .slice none 0 0, .slice none 0 0] 53))
              have X3 := Lib.hid (heap_alloc_new (w2.setCell ⟨p, 3, none⟩ (.int .i64 ((c : Int) + 1))) (.cells #[.int .i64 t, .slice none 0 0, .slice none 0 0] 53))
              obtain ⟨w3, hw3⟩ : ∃ w3, w3 = (w2.setCell ⟨p, 3, none⟩ (.int .i64 ((c : Int) + 1))).alloc (.cells #[.int .i64 t, .slice none 0 0, .slice none 0 0] 53) := ⟨_, rfl⟩
              have hX : (w2.setCell ⟨p, 3, none⟩ (.int .i64 ((c : Int) + 1))).heap.size = w2.heap.size := by simp [World.setCell]
              rw [hX] at X3
              rw [← hw3] at S3 X3 ⊢
              rw [← HG.out] at S3
              have hlt2 := S2.out.lt
              have hpN := S3.out.2.2.2
              clear hw3 hX z0 z1 z2 f0 f1 f2 r0 r1 r2 r3 q1 q3
              obtain ⟨x0, x1, x2, xf⟩ := three X3.out
              have xf1 := xf 2
              clear xf
              obtain ⟨z0, z1, z2⟩ := S3.out.zc; have f0 := S3.out.zf 0; have f1 := S3.out.zf 1; have f2 := S3.out.zf 2; have r0 := S3.out.1.c0; have r1 := S3.out.1.c1; have r2 := S3.out.1.c2; have r3 := S3.out.1.c3; have q1 := S3.out.1.fr 1; have q3 := S3.out.1.fr 3
              go_wp2_with (go_at_call 55; refine (HF _ (S3.out.bytes HB.out) S3.out.1).out.mono ?_; intro e4 w4 h4; obtain ⟨_, rfl, ⟨a4, c4, hr4⟩, hg4⟩ := h4; have S4 := Lib.hid (S3.out.step hr4 hg4); have X4 := Lib.hid ((hg4.block _ (Array.getElem?_eq_some_iff.1 X3.out).1 (by intro e; injection e with e; omega)).trans X3.out); clear hr4 hg4 z0 z1 z2 f0 f1 f2 r0 r1 r2 r3 q1 q3 x0 x1 x2 xf1; obtain ⟨x0, x1, x2, xf⟩ := three X4.out; have xf1 := xf 2; clear xf; obtain ⟨z0, z1, z2⟩ := S4.out.zc; have f0 := S4.out.zf 0; have f1 := S4.out.zf 1; have f2 := S4.out.zf 2; have r0 := S4.out.1.c0; have r1 := S4.out.1.c1; have r2 := S4.out.1.c2; have r3 := S4.out.1.c3; have q1 := S4.out.1.fr 1; have q3 := S4.out.1.fr 3)
              have S5 := S4.out.other hlt2 2 (.slice none 0 0)
              obtain ⟨y0, y1, y2⟩ := S5.finc t (.slice none 0 0) (.slice none 0 0)
              exact bodyPost_ret (v := .tuple #[.agg #[.int .i64 t, .slice none 0 0, .slice none 0 0], .int .i64 er]) (by simp [results, Tryd.results79, go_sem, y0, y1, y2]) rfl (S5.no t E.out N0.out)
            | ok r =>
              have E : Hid (objP false n (rst B a e) d c = .ok ⟨t, [], r.list, k + j + u, r.count⟩) := obj_c HT2.out HS2.out h8 h9 (by have := H3.out; omega) (by omega) TC.out (by rw [rst_drop, rst_take _ _ _ _ (by have := HG.out; simp; omega), Int.toNat_natCast, ← Nat.add_assoc, ← HG.out]; exact hl)
              have hu := hl0.1 r hl
              have HU := Lib.hid hu
              clear hu
              rw [hl] at HF
              clear hl hl0
              go_enter Tryd.func79, Tryd.ntmps79
              go_upto_region 21 with (first
                | (go_at_call 86; refine HT.out.mono ?_; intro e1 w1 h1; obtain ⟨rfl, hr1, hg1⟩ := NumOut.got h1; have S1 := Lib.hid (HS0.out.step hr1 hg1); clear h1 hr1 hg1; obtain ⟨z0, z1, z2⟩ := S1.out.zc; have f0 := S1.out.zf 0; have f1 := S1.out.zf 1; have f2 := S1.out.zf 2; have r0 := S1.out.1.c0; have r1 := S1.out.1.c1; have r2 := S1.out.1.c2; have r3 := S1.out.1.c3; have q1 := S1.out.1.fr 1; have q3 := S1.out.1.fr 3)
                | (go_at_call 71; refine (HC.out _).mono ?_; rintro e w' ⟨rfl, rfl⟩)
                | (go_at_call 87; refine (HL _ (S1.out.bytes HB.out) S1.out.1).out.mono ?_; intro e2 w2 h2; obtain ⟨rfl, hr2, hg2⟩ := NumOut.got h2; have S2 := Lib.hid (S1.out.step hr2 hg2); clear h2 hr2 hg2 z0 z1 z2 f0 f1 f2 r0 r1 r2 r3 q1 q3; obtain ⟨z0, z1, z2⟩ := S2.out.zc; have f0 := S2.out.zf 0; have f1 := S2.out.zf 1; have f2 := S2.out.zf 2; have r0 := S2.out.1.c0; have r1 := S2.out.1.c1; have r2 := S2.out.1.c2; have r3 := S2.out.1.c3; have q1 := S2.out.1.fr 1; have q3 := S2.out.1.fr 3))
              have S3 := Lib.hid (S2.out.cnt.alloc (.cells #[.int .i64 t, .slice none 0 0, .slice none 0 0] 53))
              have X3 := Lib.hid (heap_alloc_new (w2.setCell ⟨p, 3, none⟩ (.int .i64 ((c : Int) + 1))) (.cells #[.int .i64 t, .slice none 0 0, .slice none 0 0] 53))
              obtain ⟨w3, hw3⟩ : ∃ w3, w3 = (w2.setCell ⟨p, 3, none⟩ (.int .i64 ((c : Int) + 1))).alloc (.cells #[.int .i64 t, .slice none 0 0, .slice none 0 0] 53) := ⟨_, rfl⟩
              have hX : (w2.setCell ⟨p, 3, none⟩ (.int .i64 ((c : Int) + 1))).heap.size = w2.heap.size := by simp [World.setCell]
              rw [hX] at X3
              rw [← hw3] at S3 X3 ⊢
              rw [← HG.out] at S3
              have hlt2 := S2.out.lt
              have hpN := S3.out.2.2.2
              clear hw3 hX z0 z1 z2 f0 f1 f2 r0 r1 r2 r3 q1 q3
              obtain ⟨x0, x1, x2, xf⟩ := three X3.out
              have xf1 := xf 2
              clear xf
              obtain ⟨z0, z1, z2⟩ := S3.out.zc; have f0 := S3.out.zf 0; have f1 := S3.out.zf 1; have f2 := S3.out.zf 2; have r0 := S3.out.1.c0; have r1 := S3.out.1.c1; have r2 := S3.out.1.c2; have r3 := S3.out.1.c3; have q1 := S3.out.1.fr 1; have q3 := S3.out.1.fr 3
              go_wp2_with (go_at_call 55; refine (HF _ (S3.out.bytes HB.out) S3.out.1).out.mono ?_; intro e4 w4 h4; obtain ⟨v4, rfl, hv4, hr4, hg4⟩ := h4; obtain ⟨va, vc, rfl⟩ := NsS.form2 hv4; have Hv4 := Lib.hid hv4; have S4 := Lib.hid (S3.out.step hr4 hg4); have X4 := Lib.hid ((hg4.block _ (Array.getElem?_eq_some_iff.1 X3.out).1 (by intro e; injection e with e; omega)).trans X3.out); clear hv4 hr4 hg4 z0 z1 z2 f0 f1 f2 r0 r1 r2 r3 q1 q3 x0 x1 x2 xf1; obtain ⟨x0, x1, x2, xf⟩ := three X4.out; have xf1 := xf 2; clear xf; obtain ⟨z0, z1, z2⟩ := S4.out.zc; have f0 := S4.out.zf 0; have f1 := S4.out.zf 1; have f2 := S4.out.zf 2; have r0 := S4.out.1.c0; have r1 := S4.out.1.c1; have r2 := S4.out.1.c2; have r3 := S4.out.1.c3; have q1 := S4.out.1.fr 1; have q3 := S4.out.1.fr 3)
              have S5 := S4.out.other hlt2 2 (.slice va r.list.len vc)
              obtain ⟨y0, y1, y2⟩ := S5.finc t (.slice none 0 0) (.slice va r.list.len vc)
              have hX3 := (Array.getElem?_eq_some_iff.1 X3.out).1
              exact bodyPost_ret (v := .tuple #[.agg #[.int .i64 t, .slice none 0 0, .slice va r.list.len vc], .int .i64 0]) (by simp [results, Tryd.results79, go_sem, y0, y1, y2]) rfl
                (S5.yes E.out (BsS.nil0 _ _) (Hv4.out.keep fun b hb _ => ⟨Below.heap_setCell _ _ _ _ (by have := hb.1; show b ≠ w2.heap.size; omega), by have := hb.1; omega, by simpa [World.setCell] using hb.2⟩) HI.out (by have := HG.out; have := HU.out.2.2 (by simp); rw [rst_len (by omega)] at this; simp only; omega) rfl)
end Go.Proofs.YtdpiehhblflacaaDoor
