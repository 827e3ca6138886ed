/- Layer 14: Encode of infos. -/
import Derived.Test.YtdpiehhblflacaaDoorQObjC
import Derived.Test.YtdpiehhblflacaaDoorQTlv7
import Derived.Deep.LoopGhost
namespace Go.Proofs.YtdpiehhblflacaaDoor
open Go.RowKit Go.Deep

/-- A bound on an encoding's length. -/
def Ns.lmk : Ns → Nat
  | .nil => 0
  | .cons _ v k r => 12 + v.length + k.lmk + r.lmk
theorem enc_lmk (l : Ns) : l.enc.length ≤ l.lmk := by
  induction l with
  | nil => exact Nat.le_refl _
  | cons t v k r ihk ihr =>
    have h := enc_len t v k r
    simp only [Ns.lmk]
    split at h <;> omega
theorem fourB_len (k : Int) : (fourB k).length = 4 := rfl
theorem kidsI_lmk (x : Inf) : (kidsI x).lmk ≤ 75 := by
  have h : (moreN x).lmk ≤ 29 := by unfold moreN numN; (repeat' split) <;> simp [Ns.lmk, fourB_len]
  simp only [kidsI, numN, Ns.lmk, identB_len, List.length_cons, List.length_nil]
  omega
theorem setK_lmk (l : List Inf) : (setK l).lmk ≤ 87 * l.length := by
  induction l with
  | nil => exact Nat.le_refl _
  | cons x r ih => have := kidsI_lmk x; simp only [setK, Ns.lmk, List.length_nil, List.length_cons]; omega
theorem validF_cons {q : Option Inf} {x : Inf} {r : List Inf} (h : validF q (x :: r) = 0) : chkI x = 0 ∧ validF (some x) r = 0 := by
  unfold validF at h
  split at h
  · contradiction
  · rename_i h1
    split at h
    · contradiction
    · exact ⟨Decidable.not_not.1 h1, h⟩
theorem infAt_later {w w' : World} {x : Inf} {b off : Nat} (h : InfAt w x b off) (e : w'.heap[b]? = w.heap[b]?) : InfAt w' x b off := h.same e
set_option maxRecDepth 100000 in
set_option maxHeartbeats 4000000 in
theorem iencode_any (l : List Inf) (v : Value) (S : Nat → Prop) (w : World) (hT : TabE w) (hv : InfS w S v l) : Calls Tryd.prog 8 #[v] w (BytesOut (encI l) w) := by
  have HV := Lib.hid (svalid_any l v S w hv)
  obtain ⟨a, c, rfl⟩ := hv.form
  obtain ⟨b, off, hb⟩ := hv.at
  have HB := Lib.hid hb
  clear hb
  by_cases h0 : validP l = 0
  · have E : Hid (encI l = encP (.cons 49 [] (setK l) .nil)) := by show _ = _; unfold encI; rw [if_pos h0]
    have hl16 := valid_len h0
    have hvf : validF none l = 0 := by unfold validP at h0; rw [if_neg (by omega)] at h0; exact h0
    have hvo := HV.out
    rw [h0] at hvo
    have HV0 := Lib.hid hvo; have HVF := Lib.hid hvf; have HT := Lib.hid hT
    clear hvo HV hv hvf h0 hT
    go_enter Tryd.func8, Tryd.ntmps8
    go_upto_region 4 with (go_at_call 13; refine HV0.out.mono ?_; rintro e w0 ⟨rfl, h1⟩; have H1 := Lib.hid h1; clear h1)
    have hzn := heap_alloc_new w0 (.cells #[.int .i64 0, .slice none 0 0, .slice none 0 0] 53)
    obtain ⟨n0, n1, n2, nf⟩ := node_three hzn
    have nf0 := nf 0; have nf1 := nf 1; have nf2 := nf 2
    have HZ0 : Hid (ZAt 49 w0.heap.size w0 (w0.alloc (.cells #[.int .i64 49, .slice none 0 0, .slice none 0 0] 53)) w0.heap.size (.slice none 0 0) .nil) :=
      Lib.hid ⟨Nat.le_refl _, heap_alloc_new _ _, OwnX.nil _ _ _, by simp [Value.ownBlock], (Below.refl _ _).alloc (Nat.le_refl _) _⟩
    clear hzn nf
    go_wp2_with fail
    go_loopg [16] l.length (fun m i wr => ∃ (R D : List Inf) (q : Option Inf) (o : Value), D ++ R = l ∧ R.length = m ∧ i = .int .i64 D.length ∧ D.length + R.length = l.length ∧ ZAt 49 w0.heap.size w0 wr w0.heap.size o (setK D) ∧ Hid (validF q R = 0) ∧ InfsAt w R b (off + D.length * 5))
    case atStart => exact ⟨l, [], none, .slice none 0 0, rfl, rfl, rfl, by simp, HZ0.out, HVF, by rw [List.length_nil, Nat.zero_mul, Nat.add_zero]; exact InfsAt.zero HB.out⟩
    case round =>
      clear n0 n1 n2 nf0 nf1 nf2 HZ0
      obtain ⟨R, D, q, o, hl, rfl, rfl, hj, hza, hvr, hat⟩ := hrel
      have HLR := Lib.hid hl
      have HZA := Lib.hid hza
      clear hl hza
      obtain ⟨ao, co, ho⟩ := HZA.out.own.form
      rw [setK_len] at ho
      subst ho
      cases R with
      | nil =>
        have hDl : D = l := by have := HLR.out; simpa using this
        subst hDl
        clear hat hvr hj HLR
        obtain ⟨q0, q1, q2, _⟩ := node_three HZA.out.box
        have hall : (Ns.cons 49 [] (setK D) .nil).all ≤ 100000000000 := by have := setK_all D; simp only [Ns.all]; omega
        have hlen : (Ns.cons 49 [] (setK D) .nil).enc.length ≤ 1000000000000 := by have := enc_lmk (Ns.cons 49 [] (setK D) .nil); have h2 := setK_lmk D; simp only [Ns.lmk, List.length_nil] at this; omega
        have hone : NsS (wr.alloc (.cells #[.int .i64 49, .slice none 0 0, .slice ao D.length co] 53)) (· < (wr.alloc (.cells #[.int .i64 49, .slice none 0 0, .slice ao D.length co] 53)).heap.size) (.slice (some ⟨wr.heap.size, 0, none⟩) 1 1) (.cons 49 [] (setK D) .nil) := by
          refine NsS.one (heap_alloc_new _ _) (by simp) (by simp [I64in]) (BsS.nil0 _ _) ?_
          have := HZA.out.own.nss (by rw [setK_len]; omega)
          exact this.keep fun b hs hl' => ⟨Below.heap_alloc _ _ _ hl', by show b < _; rw [alloc_size]; have := hs.2; omega⟩
        have HE := Lib.hid (encode_any (.cons 49 [] (setK D) .nil) _ _ hone hall hlen)
        clear hone hall hlen
        go_wp2_with (go_at_call 29; refine HE.out.mono ?_; rintro e w5 ⟨v5, rfl, h1, h2⟩; have R1 := Lib.hid h1; have R2 := Lib.hid h2; clear h1 h2)
        go_ret2
        rw [E.out]
        refine ⟨_, rfl, R1.out.keep fun b hs _ => ⟨rfl, ?_, hs.2⟩, ?_⟩
        · have := hs.1; have h3 := H1.out.size; have h4 := HZA.out.below.size; simp at this; omega
        · exact ((H1.out.trans (HZA.out.below.mono H1.out.size)).alloc (Nat.le_trans H1.out.size HZA.out.below.size) _).trans (R2.out.mono (by have h3 := H1.out.size; have h4 := HZA.out.below.size; simp; omega))
      | cons x R =>
        obtain ⟨p, ve, r, k, d⟩ := x
        obtain ⟨hchk, hrv⟩ := validF_cons hvr.out
        obtain ⟨⟨h0, h1, h2, h3, h4⟩, _, hrest⟩ := hat
        simp only [List.length_cons] at hj
        obtain ⟨ha, ⟨_, hbl⟩, _⟩ := HB.out (by omega)
        subst ha
        have HW : Hid (Below w.heap.size w wr) := Lib.hid (H1.out.trans (HZA.out.below.mono H1.out.size))
        have c0 := (HW.out.cell (p := ⟨b, off + D.length * 5, none⟩) hbl).trans h0
        have c1 := (HW.out.cell (p := ⟨b, off + D.length * 5 + 1, none⟩) hbl).trans h1
        have c2 := (HW.out.cell (p := ⟨b, off + D.length * 5 + 2, none⟩) hbl).trans h2
        have c3 := (HW.out.cell (p := ⟨b, off + D.length * 5 + 3, none⟩) hbl).trans h3
        have c4 := (HW.out.cell (p := ⟨b, off + D.length * 5 + 4, none⟩) hbl).trans h4
        have HRV := Lib.hid hrv; have HRS : Hid (InfsAt w R b (off + (D ++ [(⟨p, ve, r, k, d⟩ : Inf)]).length * 5)) := Lib.hid (by rw [List.length_append, List.length_singleton, show off + (D.length + 1) * 5 = off + D.length * 5 + 5 by omega]; exact hrest)
        have HCK := Lib.hid hchk
        have hlt : D.length < l.length := by omega
        obtain ⟨KL, hKL⟩ : ∃ KL, Hid (KL = (kidsI ⟨p, ve, r, k, d⟩).len) := ⟨_, Lib.hid rfl⟩
        have HKL := hKL
        clear hKL hrv hrest hchk hvr h0 h1 h2 h3 h4
        go_upto_region 8 with fail
        clear c0 c1 c2 c3 c4
        have hbn := heap_alloc_new wr (.cells #[.int .i64 p, .int .i64 ve, .int .i64 r, .int .i64 k, .int .i64 d] 45)
        obtain ⟨w2, hw2⟩ : ∃ w2, w2 = wr.alloc (.cells #[.int .i64 p, .int .i64 ve, .int .i64 r, .int .i64 k, .int .i64 d] 45) := ⟨_, rfl⟩
        rw [← hw2] at hbn ⊢
        have hb2 : Below wr.heap.size wr w2 := by rw [hw2]; exact (Below.refl _ _).alloc (Nat.le_refl _) _
        have HZ2 := Lib.hid (HZA.out.later HZA.out.below.size hb2)
        have x2 : ∀ W, Below w2.heap.size w2 W → InfAt W ⟨p, ve, r, k, d⟩ wr.heap.size 0 := fun W h => by
          have e := (h.block wr.heap.size (Array.getElem?_eq_some_iff.1 hbn).1).trans hbn
          refine ⟨?_, ?_, ?_, ?_, ?_⟩ <;> (rw [cell_of_row _ _ _ _ _ _ e]; rfl)
        have z2 : ∀ W, Below w2.heap.size w2 W → W.cell? ⟨w0.heap.size, 2, none⟩ = some (.slice ao D.length co) := fun W h => (h.cell (p := ⟨w0.heap.size, 2, none⟩) HZ2.out.lt).trans (by rw [cell_of_row _ _ _ _ _ _ HZ2.out.box]; rfl)
        have X2 := Lib.hid x2; have Z2 := Lib.hid z2
        have HO := Lib.hid (fun W (h : Below w2.heap.size w2 W) => iobject_any ⟨p, ve, r, k, d⟩ W (HT.out.below ((H1.out.trans (HZ2.out.below.mono H1.out.size)).trans (h.mono (Nat.le_trans H1.out.size HZ2.out.below.size))) HT.out.lt) HCK.out)
        clear x2 z2 hb2 hbn hw2
        refine wp_region_rg 5 [some 20, some 21, some 22, some 23, some 24] [[], [0], [], [2], [2, 3]]
          (fun _ _ w1 => Below w2.heap.size w2 w1) (fun w1 w2 => Below w1.heap.size w1 w2)
          [fun v _ => v 0 = .pointer (some ⟨w0.heap.size, 2, none⟩),
           fun v _ => v 1 = .slice ao D.length co,
           fun v _ => v 2 = .agg #[.int .i64 p, .int .i64 ve, .int .i64 r, .int .i64 k, .int .i64 d],
           fun v w1 => ∃ a c, v 3 = .agg #[.int .i64 48, .slice none 0 0, .slice a KL c] ∧ NsS w1 (New w2 w1) (.slice a KL c) (kidsI ⟨p, ve, r, k, d⟩),
           fun v w1 => ∃ a c g, v 4 = .slice (some ⟨g, 0, none⟩) 1 1 ∧ w2.heap.size ≤ g ∧ NsS w1 (New w2 w1) (.slice a KL c) (kidsI ⟨p, ve, r, k, d⟩) ∧ w1.heap[g]? = some (.cells #[.int .i64 48, .slice none 0 0, .slice a KL c] 53)]
          (by kernel_rfl) (by kernel_rfl) (fun _ => (Below.refl _ _).drew) ?st ?steps ?tail
        case st =>
          exact (.cons (fun _ _ _ _ _ _ h => h) (.cons (fun _ _ _ _ _ _ h => h) (.cons (fun _ _ _ _ _ _ h => h) (.cons (fun _ _ _ _ _ hr ⟨a, c, e, h⟩ => ⟨a, c, e, NsS.keep h fun b hs hl => ⟨hr.block b hl, hs.1, Nat.lt_of_lt_of_le hs.2 hr.size⟩⟩) (.cons (fun _ _ _ _ _ hr ⟨a, c, g, e, h1, h, h2⟩ => ⟨a, c, g, e, h1, NsS.keep h fun b hs hl => ⟨hr.block b hl, hs.1, Nat.lt_of_lt_of_le hs.2 hr.size⟩, (hr.block g (Array.getElem?_eq_some_iff.1 h2).1).trans h2⟩) .nil)))))
        case steps =>
          simp only [List.take_succ_cons, List.take_zero]
          refine (.cons ?_ (.cons ?_ (.cons ?_ (.cons ?_ (.cons ?_ .nil)))))
          all_goals (intro L v w1 hJ hL hA hF K hK; simp only [fillRG, Act.put, Nat.zero_add, Nat.reduceAdd, List.setIfInBounds_toArray, List.set_cons_zero, List.set_cons_succ] at hK ⊢)
          · go_simp
            refine hK _ _ hJ (Below.refl _ _) ?_
            first | exact rfl | exact val_mod _
          · have e0 : v 0 = .pointer (some ⟨w0.heap.size, 2, none⟩) := hF 0 (hA 0 (by simp))
            have c0 := Z2.out _ hJ
            simp only [e0] at hK
            go_simp
            refine hK _ _ hJ (Below.refl _ _) ?_
            first | exact rfl | exact val_mod _
          · obtain ⟨c0, c1, c2, c3, c4⟩ := X2.out _ hJ
            go_simp
            refine hK _ _ hJ (Below.refl _ _) ?_
            first | exact rfl | exact val_mod _
          · have e2 : v 2 = .agg #[.int .i64 p, .int .i64 ve, .int .i64 r, .int .i64 k, .int .i64 d] := hF 2 (hA 2 (by simp))
            simp only [e2] at hK
            go_simp
            refine (HO.out _ hJ).mono ?_
            rintro e w5 ⟨kv, rfl, h1, h2⟩
            obtain ⟨a5, c5, rfl⟩ : ∃ A c, kv = .slice A KL c := by rw [HKL.out]; exact h1.form3
            exact hK _ _ (hJ.trans (h2.mono hJ.size)) h2 ⟨_, _, rfl, h1.keep fun b hs _ => ⟨rfl, Nat.le_trans hJ.size hs.1, hs.2⟩⟩
          · obtain ⟨a5, c5, e3, h3⟩ : ∃ a c, v 3 = .agg #[.int .i64 48, .slice none 0 0, .slice a KL c] ∧ NsS w1 (New w2 w1) (.slice a KL c) (kidsI ⟨p, ve, r, k, d⟩) := hF 3 (hA 3 (by simp))
            have H3 := Lib.hid h3
            clear h3
            simp only [e3] at hK
            go_simp
            exact hK _ _ (hJ.alloc hJ.size _) ((Below.refl _ _).alloc (Nat.le_refl _) _) ⟨_, _, _, rfl, hJ.size, H3.out.keep fun b hs hl => ⟨Below.heap_alloc _ _ _ hl, hs.1, by have := hs.2; simp; omega⟩, heap_alloc_new _ _⟩
        case tail =>
          intro v w1 hJ hF
          have e0 : v 0 = .pointer (some ⟨w0.heap.size, 2, none⟩) := hF 0 (by simp)
          have e1 : v 1 = .slice ao D.length co := hF 1 (by simp)
          have e2 : v 2 = .agg #[.int .i64 p, .int .i64 ve, .int .i64 r, .int .i64 k, .int .i64 d] := hF 2 (by simp)
          obtain ⟨a5, c5, g, e4, hg, hks, hgc⟩ : ∃ a c g, v 4 = .slice (some ⟨g, 0, none⟩) 1 1 ∧ w2.heap.size ≤ g ∧ NsS w1 (New w2 w1) (.slice a KL c) (kidsI ⟨p, ve, r, k, d⟩) ∧ w1.heap[g]? = some (.cells #[.int .i64 48, .slice none 0 0, .slice a KL c] 53) := hF 4 (by simp)
          simp only [List.drop_succ_cons, List.drop_zero, fillRG, Act.put, Nat.zero_add, Nat.reduceAdd, List.setIfInBounds_toArray, List.set_cons_zero, List.set_cons_succ]
          have hza := HZ2.out.later HZ2.out.below.size hJ
          have hks2 : NsS w1 (OffX w0.heap.size (· = w0.heap.size) w1 (.slice ao D.length co)) (.slice a5 KL c5) (kidsI ⟨p, ve, r, k, d⟩) := hks.keep fun b hs hl => ⟨rfl, ⟨hl, fun e => by have := lt_of_own HZ2.out.own e; have := hs.1; omega, Nat.le_trans HZ2.out.below.size hs.1⟩, fun e => by have := HZ2.out.lt; have := hs.1; omega⟩
          have HM3 : Hid (EachN w1 (OffX w0.heap.size (· = w0.heap.size) w1 (.slice ao D.length co)) (.cons 48 [] (kidsI ⟨p, ve, r, k, d⟩) .nil) [.int .i64 48, .slice none 0 0, .slice a5 KL c5]) := Lib.hid ⟨_, _, _, rfl, by simp [I64in], BsS.nil0 _ _, hks2, rfl⟩
          have HGC := Lib.hid hgc; have HZ1 := Lib.hid hza; have HJ := Lib.hid hJ
          have hnz : ¬ w1.heap.size = w0.heap.size := fun e => by have := hza.lt; omega
          have hw01 : w0.heap.size ≤ w1.heap.size := Nat.le_trans HZ2.out.below.size hJ.size
          clear hks hks2 hgc hza hJ hF hg
          have HM1 : Hid (1 = (Ns.cons 48 [] (kidsI ⟨p, ve, r, k, d⟩) .nil).len) := Lib.hid rfl
          have hml : (setK D).len + (Ns.cons 48 [] (kidsI ⟨p, ve, r, k, d⟩) .nil).len ≤ 1000000000000 := by rw [setK_len]; simp [Ns.len]; omega
          go_wp2_with (at_builtin; (with_reducible refine wpList_nodes rfl (.tmp 21) (.tmp 24) rfl w0.heap.size (· = w0.heap.size) (.slice ao D.length co) (setK D) (.cons 48 [] (kidsI ⟨p, ve, r, k, d⟩) .nil) (by simp [Act.eval, e1]) HZ1.out.own g 1 [.int .i64 48, .slice none 0 0, .slice a5 KL c5] #[.int .i64 48, .slice none 0 0, .slice a5 KL c5] 53 (0, 0) (by simp [Act.eval, e4]) HM1.out HGC.out rfl HM3.out hml hw01 hnz ?_); intro o' w' hG; rw [← setK_snoc] at hG; obtain ⟨ao2, co2, ho'⟩ := hG.1.form; rw [setK_len, List.length_append, List.length_singleton] at ho'; subst ho'; have hzc := (hG.2.2.1.block w0.heap.size HZ1.out.lt (fun e => HZ1.out.ne e.symm)).trans HZ1.out.box; obtain ⟨q0, q1, q2, qf⟩ := node_three hzc; have f2 := qf 2; have HP1 := Lib.hid (HZ1.out.push hG); clear hG qf hzc)
          go_roundg R.length
          case measure => simp
          case rel => exact ⟨R, D ++ [⟨p, ve, r, k, d⟩], some ⟨p, ve, r, k, d⟩, .slice ao2 (D.length + 1) co2, by rw [List.append_assoc]; exact HLR.out, rfl, by rw [List.length_append, List.length_singleton]; go_num, by rw [List.length_append, List.length_singleton]; omega, HP1.out, HRV, HRS.out⟩
  · have E : Hid (encI l = .error (validP l)) := by show _ = _; unfold encI; rw [if_neg h0]
    have hvo := HV.out
    obtain ⟨er, her⟩ : ∃ er, validP l = er := ⟨_, rfl⟩
    rw [her] at hvo h0 E
    have HV0 := Lib.hid hvo
    have h0' : (er != 0) = true := by simp [h0]
    clear hvo HV hv h0 her
    go_enter Tryd.func8, Tryd.ntmps8
    go_wp2_with (go_at_call 13; refine HV0.out.mono ?_; rintro e w0 ⟨rfl, h1⟩; have H1 := Lib.hid h1; clear h1)
    go_ret2
    exact BytesOut.no E.out H1.out
end Go.Proofs.YtdpiehhblflacaaDoor
/- Layer 14: the reference's object of an info. -/
namespace Go.Proofs.YtdpiehhblflacaaDoor
open Go.RowKit Go.Deep

theorem robj_end {x : Inf} {w w0 w1 : World} {o : Value} (h : OwnX w1 w0.heap.size (fun _ => False) o (kidsI x)) (hb1 : Below w0.heap.size w0 w1) (hz : w0.heap.size = w.heap.size + 2) (hb : Below w.heap.size w w0) :
    ∀ w2, Below w1.heap.size w1 w2 → ObjEnd x w (.returned (.agg #[.int .i64 48, .slice none 0 0, o])) (((w2.setCell ⟨w.heap.size + 1, 0, none⟩ (.int .i64 48)).setCell ⟨w.heap.size + 1, 1, none⟩ (.slice none 0 0)).setCell ⟨w.heap.size + 1, 2, none⟩ o) := by
  intro w2 h2
  have hl : (kidsI x).len ≤ 2513169434843 := by simp only [kidsI, numN, Ns.len]; unfold moreN numN; (repeat' split) <;> simp [Ns.len]
  have h1z := hb1.size
  refine ⟨o, rfl, ((h.below h2).nss hl).keep fun b hs hb' => ⟨?_, by omega, by simpa [World.setCell] using hs.2⟩, (((((hb.trans (hb1.mono (by omega))).trans (h2.mono (by omega))).setCell (by simp) _).setCell (by simp) _).setCell (by simp) _)⟩
  have hne : b ≠ w.heap.size + 1 := by omega
  rw [Below.heap_setCell _ _ _ _ hne, Below.heap_setCell _ _ _ _ hne, Below.heap_setCell _ _ _ _ hne]
theorem own_later {wc w5 : World} {B : Nat} {o : Value} {L : Ns} (h : OwnX wc B (fun _ => False) o L) (hb : Below wc.heap.size wc w5) (x : Obj) : OwnX (w5.alloc x) B (fun _ => False) o L := h.below (hb.alloc hb.size x)
theorem off_later {wc w : World} {B : Nat} {o : Value} {L : Ns} (h : OwnX wc B (fun _ => False) o L) (hB : B ≤ wc.heap.size) {b : Nat} (h1 : wc.heap.size ≤ b) (h2 : b < w.heap.size) : OffX B (fun _ => False) w o b :=
  ⟨⟨h2, fun e => by have := lt_of_own h e; omega, Nat.le_trans hB h1⟩, id⟩
theorem each_num {wc w5 : World} {B : Nat} {o : Value} {L : Ns} {xv : Value} {z : Int} (h : OwnX wc B (fun _ => False) o L) (_hb : Below wc.heap.size wc w5) (hB : B ≤ wc.heap.size) (hv : BsS w5 (New wc w5) xv [ofI z]) (x : Obj) :
    EachN (w5.alloc x) (OffX B (fun _ => False) (w5.alloc x) o) (numN z .nil) [.int .i64 2, xv, .slice none 0 0] :=
  ⟨_, _, _, rfl, by simp [I64in], hv.keep fun b hs hl => ⟨Below.heap_alloc _ _ _ hl, off_later h hB hs.1 (by simp; omega)⟩, NsS.nil0 _ _, rfl⟩
set_option maxRecDepth 100000 in
set_option maxHeartbeats 4000000 in
theorem robject_any (x : Inf) (w : World) (hx : chkI x = 0) : Calls Tryd.prog 53 #[.agg x.cells] w (ObjEnd x w) := by
  obtain ⟨p, ve, r, k, d⟩ := x
  show Calls Tryd.prog 53 #[.agg #[.int .i64 p, .int .i64 ve, .int .i64 r, .int .i64 k, .int .i64 d]] w _
  have hp : 2 ≤ p ∧ p ≤ 6 := by
    unfold chkI chkB at hx
    rcases Decidable.em (2 ≤ p ∧ p ≤ 6) with h | h
    · exact h
    · simp only [h, not_false_eq_true, if_true] at hx; omega
  have HI := Lib.hid (fun w => rident_any p w hp)
  go_enter Tryd.func53, Tryd.ntmps53
  go_upto_region 1 with fail
  obtain ⟨w0, hw0⟩ : ∃ w0, w0 = (w.alloc (.cells #[.int .i64 p, .int .i64 ve, .int .i64 r, .int .i64 k, .int .i64 d] 45)).alloc (.cells #[.int .i64 0, .slice none 0 0, .slice none 0 0] 53) := ⟨_, rfl⟩
  rw [← hw0]
  have hz0 : w0.heap.size = w.heap.size + 2 := by rw [hw0]; simp
  have hbx : w0.heap[w.heap.size]? = some (.cells #[.int .i64 p, .int .i64 ve, .int .i64 r, .int .i64 k, .int .i64 d] 45 (0, 0)) := by rw [hw0]; exact (Below.heap_alloc _ _ _ (by simp)).trans (heap_alloc_new _ _)
  have hres : w0.heap[w.heap.size + 1]? = some (.cells #[.int .i64 0, .slice none 0 0, .slice none 0 0] 53) := by rw [hw0]; have := heap_alloc_new (w.alloc (.cells #[.int .i64 p, .int .i64 ve, .int .i64 r, .int .i64 k, .int .i64 d] 45)) (.cells #[.int .i64 0, .slice none 0 0, .slice none 0 0] 53); simpa using this
  have hB0 : Below w.heap.size w w0 := by rw [hw0]; exact ((Below.refl _ _).alloc (Nat.le_refl _) _).alloc (by simp) _
  have hinf : ∀ W, Below w0.heap.size w0 W → InfAt W ⟨p, ve, r, k, d⟩ w.heap.size 0 := fun W h => by
    have e := (h.block w.heap.size (by omega)).trans hbx
    refine ⟨?_, ?_, ?_, ?_, ?_⟩ <;> (rw [cell_of_row _ _ _ _ _ _ e]; rfl)
  have HBX := Lib.hid hinf; have HB0 := Lib.hid hB0; have HZ := Lib.hid hz0; have HRES := Lib.hid hres
  clear hbx hB0 hw0 hz0 hres hinf
  go_cut [3] from 4 to 13 (fun y wc => ∃ A c, y = .slice A 2 c ∧ OwnX wc w0.heap.size (fun _ => False) (.slice A 2 c) (.cons 6 (identB p) .nil (numN ve .nil)) ∧ Below w0.heap.size w0 wc)
  case first =>
    refine wp_region_rg 10 [some 4, some 5, some 6, some 7, some 8, some 9, some 10, some 11, some 12, some 13] [[], [0], [0, 1], [0, 1, 2], [], [4], [4, 5], [4, 5, 6], [0, 1, 2, 3, 4, 5, 6, 7], [0, 1, 2, 3, 4, 5, 6, 7, 8]]
      (fun _ _ w1 => Below w0.heap.size w0 w1) (fun w1 w2 => Below w1.heap.size w1 w2)
      [fun v _ => v 0 = .pointer (some ⟨w.heap.size, 0, none⟩),
       fun v _ => v 1 = .int .i64 p,
       fun v w1 => BsS w1 (New w0 w1) (v 2) (identB p),
       fun v w1 => ∃ a c, v 3 = .agg #[.int .i64 6, .slice a (identB p).length c, .slice none 0 0] ∧ BsS w1 (New w0 w1) (.slice a (identB p).length c) (identB p),
       fun v _ => v 4 = .pointer (some ⟨w.heap.size, 1, none⟩),
       fun v _ => v 5 = .int .i64 ve,
       fun v _ => v 6 = U8 (ofI ve),
       fun v w1 => BsS w1 (New w0 w1) (v 7) [ofI ve],
       fun v w1 => ∃ a c, v 8 = .agg #[.int .i64 2, .slice a ([ofI ve]).length c, .slice none 0 0] ∧ BsS w1 (New w0 w1) (.slice a ([ofI ve]).length c) ([ofI ve]),
       fun v w1 => ∃ a c a2 c2 g, v 9 = .slice (some ⟨g, 0, none⟩) 2 2 ∧ w0.heap.size ≤ g ∧ BsS w1 (fun b => New w0 w1 b ∧ b ≠ g) (.slice a (identB p).length c) (identB p) ∧ BsS w1 (fun b => New w0 w1 b ∧ b ≠ g) (.slice a2 ([ofI ve]).length c2) ([ofI ve]) ∧ w1.heap[g]? = some (.cells #[.int .i64 6, .slice a (identB p).length c, .slice none 0 0, .int .i64 2, .slice a2 ([ofI ve]).length c2, .slice none 0 0] 53)]
      (by kernel_rfl) (by kernel_rfl) (fun _ => (Below.refl _ _).drew) ?st ?steps ?tail
    case st =>
      exact (.cons (fun _ _ _ _ _ _ h => h) (.cons (fun _ _ _ _ _ _ h => h) (.cons (fun _ _ _ _ _ hr h => BsS.keep h fun b hs hl => ⟨hr.block b hl, hs.1, Nat.lt_of_lt_of_le hs.2 hr.size⟩) (.cons (fun _ _ _ _ _ hr ⟨a, c, e, h⟩ => ⟨a, c, e, BsS.keep h fun b hs hl => ⟨hr.block b hl, hs.1, Nat.lt_of_lt_of_le hs.2 hr.size⟩⟩) (.cons (fun _ _ _ _ _ _ h => h) (.cons (fun _ _ _ _ _ _ h => h) (.cons (fun _ _ _ _ _ _ h => h) (.cons (fun _ _ _ _ _ hr h => BsS.keep h fun b hs hl => ⟨hr.block b hl, hs.1, Nat.lt_of_lt_of_le hs.2 hr.size⟩) (.cons (fun _ _ _ _ _ hr ⟨a, c, e, h⟩ => ⟨a, c, e, BsS.keep h fun b hs hl => ⟨hr.block b hl, hs.1, Nat.lt_of_lt_of_le hs.2 hr.size⟩⟩) (.cons (fun _ _ _ _ _ hr ⟨a, c, a2, c2, g, e, h1, h, h3, h2⟩ => ⟨a, c, a2, c2, g, e, h1, BsS.keep h fun b hs hl => ⟨hr.block b hl, ⟨hs.1.1, Nat.lt_of_lt_of_le hs.1.2 hr.size⟩, hs.2⟩, BsS.keep h3 fun b hs hl => ⟨hr.block b hl, ⟨hs.1.1, Nat.lt_of_lt_of_le hs.1.2 hr.size⟩, hs.2⟩, (hr.block g (Array.getElem?_eq_some_iff.1 h2).1).trans h2⟩) .nil))))))))))
    case steps =>
      simp only [List.take_succ_cons, List.take_zero]
      refine (.cons ?_ (.cons ?_ (.cons ?_ (.cons ?_ (.cons ?_ (.cons ?_ (.cons ?_ (.cons ?_ (.cons ?_ (.cons ?_ .nil))))))))))
      all_goals (intro L v w1 hJ hL hA hF K hK; simp only [fillRG, Act.put, Nat.zero_add, Nat.reduceAdd, List.setIfInBounds_toArray, List.set_cons_zero, List.set_cons_succ] at hK ⊢)
      · go_simp
        refine hK _ _ hJ (Below.refl _ _) ?_
        first | exact rfl | exact val_mod _
      · have e0 : v 0 = .pointer (some ⟨w.heap.size, 0, none⟩) := hF 0 (hA 0 (by simp))
        have c0 := (HBX.out _ hJ).1
        simp only [e0] at hK
        go_simp
        refine hK _ _ hJ (Below.refl _ _) ?_
        first | exact rfl | exact val_mod _
      · have e1 : v 1 = .int .i64 p := hF 1 (hA 1 (by simp))
        simp only [e1] at hK
        go_simp
        refine (HI.out _).mono ?_
        rintro e w5 ⟨v5, rfl, h1, h2⟩
        exact hK _ _ (hJ.trans (h2.mono hJ.size)) h2 (h1.keep fun b hs _ => ⟨rfl, Nat.le_trans hJ.size hs.1, hs.2⟩)
      · have hb : BsS w1 (New w0 w1) (v 2) (identB p) := hF 2 (hA 2 (by simp))
        obtain ⟨a5, c5, r5⟩ := hb.form2
        rw [r5] at hb
        simp only [r5] at hK
        have HPC := Lib.hid (prim_any 6 (.slice a5 (identB p).length c5) (identB p) w1 (hb.keep fun b hs _ => ⟨rfl, hs.2⟩))
        clear hb
        go_simp
        refine HPC.out.mono ?_
        rintro e w5 ⟨v5, rfl, h1, h2⟩
        obtain ⟨a6, c6, rfl⟩ := h1.form2
        exact hK _ _ (hJ.trans (h2.mono hJ.size)) h2 ⟨_, _, rfl, h1.keep fun b hs _ => ⟨rfl, Nat.le_trans hJ.size hs.1, hs.2⟩⟩
      · go_simp
        refine hK _ _ hJ (Below.refl _ _) ?_
        first | exact rfl | exact val_mod _
      · have e4 : v 4 = .pointer (some ⟨w.heap.size, 1, none⟩) := hF 4 (hA 4 (by simp))
        have c0 := (HBX.out _ hJ).2.1
        simp only [e4] at hK
        go_simp
        refine hK _ _ hJ (Below.refl _ _) ?_
        first | exact rfl | exact val_mod _
      · have e5 : v 5 = .int .i64 ve := hF 5 (hA 5 (by simp))
        simp only [e5] at hK
        go_simp
        refine hK _ _ hJ (Below.refl _ _) ?_
        first | exact rfl | exact val_mod _
      · have e6 : v 6 = U8 (ofI ve) := hF 6 (hA 6 (by simp))
        simp only [e6] at hK
        go_simp
        refine hK _ _ (hJ.alloc hJ.size _) ((Below.refl _ _).alloc (Nat.le_refl _) _) ?_
        exact BsS.fresh w1 [ofI ve] #[U8 (ofI ve)] 5 rfl _ ⟨hJ.size, by simp⟩ (by simp)
      · have hb : BsS w1 (New w0 w1) (v 7) ([ofI ve]) := hF 7 (hA 7 (by simp))
        obtain ⟨a5, c5, r5⟩ := hb.form2
        rw [r5] at hb
        simp only [r5] at hK
        have HPC := Lib.hid (prim_any 2 (.slice a5 ([ofI ve]).length c5) ([ofI ve]) w1 (hb.keep fun b hs _ => ⟨rfl, hs.2⟩))
        clear hb
        go_simp
        refine HPC.out.mono ?_
        rintro e w5 ⟨v5, rfl, h1, h2⟩
        obtain ⟨a6, c6, rfl⟩ := h1.form2
        exact hK _ _ (hJ.trans (h2.mono hJ.size)) h2 ⟨_, _, rfl, h1.keep fun b hs _ => ⟨rfl, Nat.le_trans hJ.size hs.1, hs.2⟩⟩
      · obtain ⟨a5, c5, e5, h5⟩ : ∃ a c, v 3 = .agg #[.int .i64 6, .slice a (identB p).length c, .slice none 0 0] ∧ BsS w1 (New w0 w1) (.slice a (identB p).length c) (identB p) := hF 3 (hA 3 (by simp))
        obtain ⟨a6, c6, e6, h6⟩ : ∃ a c, v 8 = .agg #[.int .i64 2, .slice a ([ofI ve]).length c, .slice none 0 0] ∧ BsS w1 (New w0 w1) (.slice a ([ofI ve]).length c) ([ofI ve]) := hF 8 (hA 8 (by simp))
        have H5 := Lib.hid h5; have H6 := Lib.hid h6
        clear h5 h6
        simp only [e5, e6] at hK
        go_simp
        exact hK _ _ (hJ.alloc hJ.size _) ((Below.refl _ _).alloc (Nat.le_refl _) _) ⟨_, _, _, _, _, rfl, hJ.size, H5.out.keep fun b hs hl => ⟨Below.heap_alloc _ _ _ hl, ⟨hs.1, by have := hs.2; simp; omega⟩, Nat.ne_of_lt hs.2⟩, H6.out.keep fun b hs hl => ⟨Below.heap_alloc _ _ _ hl, ⟨hs.1, by have := hs.2; simp; omega⟩, Nat.ne_of_lt hs.2⟩, heap_alloc_new _ _⟩
    case tail =>
      intro v w1 hJ hF
      have e0 : v 0 = .pointer (some ⟨w.heap.size, 0, none⟩) := hF 0 (by simp)
      have e1 : v 1 = .int .i64 p := hF 1 (by simp)
      have e4 : v 4 = .pointer (some ⟨w.heap.size, 1, none⟩) := hF 4 (by simp)
      have e5 : v 5 = .int .i64 ve := hF 5 (by simp)
      have e6 : v 6 = U8 (ofI ve) := hF 6 (by simp)
      obtain ⟨a5, c5, a6, c6, g, e9, hg, h5, h6, hgc⟩ : ∃ a c a2 c2 g, v 9 = .slice (some ⟨g, 0, none⟩) 2 2 ∧ w0.heap.size ≤ g ∧ BsS w1 (fun b => New w0 w1 b ∧ b ≠ g) (.slice a (identB p).length c) (identB p) ∧ BsS w1 (fun b => New w0 w1 b ∧ b ≠ g) (.slice a2 1 c2) [ofI ve] ∧ w1.heap[g]? = some (.cells #[.int .i64 6, .slice a (identB p).length c, .slice none 0 0, .int .i64 2, .slice a2 1 c2, .slice none 0 0] 53) := hF 9 (by simp)
      simp only [List.drop_succ_cons, List.drop_zero, fillRG, Act.put, Nat.zero_add, Nat.reduceAdd, List.setIfInBounds_toArray, List.set_cons_zero, List.set_cons_succ]
      have hk : ∀ b, (New w0 w1 b ∧ b ≠ g) → b < w1.heap.size → w1.heap[b]? = w1.heap[b]? ∧ OffX w0.heap.size (fun _ => False) w1 (.slice (some ⟨g, 0, none⟩) 2 2) b := fun b hs hl => ⟨rfl, ⟨hl, fun e => hs.2 (by injection e with e; exact e.symm), hs.1.1⟩, id⟩
      have HOW : Hid (OwnX w1 w0.heap.size (fun _ => False) (.slice (some ⟨g, 0, none⟩) 2 2) (.cons 6 (identB p) .nil (numN ve .nil))) := Lib.hid ⟨[.int .i64 6, .slice a5 (identB p).length c5, .slice none 0 0, .int .i64 2, .slice a6 1 c6, .slice none 0 0], ⟨rfl, .inr ⟨g, 2, _, rfl, hg, hgc, Nat.le_refl _, by simp [maxLen], rfl, rfl⟩⟩, _, _, _, rfl, by simp [I64in], h5.keep hk, NsS.nil0 _ _, _, _, _, rfl, by simp [I64in], h6.keep hk, NsS.nil0 _ _, rfl⟩
      have HJ := Lib.hid hJ
      clear hk h5 h6 hgc hg hJ hF
      go_wp2_with fail
      go_meet
      exact ⟨_, _, e9, HOW.out, HJ.out⟩
  case rest =>
    obtain ⟨ao, co, rfl, hown, hbc⟩ := hcut
    have HOW := Lib.hid hown; have HBC := Lib.hid hbc
    clear hown hbc
    have HBX2 := Lib.hid (HBX.out wc HBC.out)
    have BXC : Hid (∀ W, Below wc.heap.size wc W → InfAt W ⟨p, ve, r, k, d⟩ w.heap.size 0) := Lib.hid (fun W h => HBX.out W (HBC.out.trans (h.mono HBC.out.size)))
    have HRESC := Lib.hid ((HBC.out.block (w.heap.size + 1) (by have := HZ.out; omega)).trans HRES.out)
    have hw0c := HBC.out.size
    obtain ⟨x0, x1, x2, x3, x4⟩ := HBX2.out
    have END := Lib.hid (fun (W1 : World) (o : Value) (L : Ns) (hL : kidsI ⟨p, ve, r, k, d⟩ = L) (ho : OwnX W1 w0.heap.size (fun _ => False) o L) (hb : Below w0.heap.size w0 W1) => robj_end (x := ⟨p, ve, r, k, d⟩) (hL ▸ ho) hb HZ.out HB0.out)
    clear x1
    obtain ⟨L0, hL0⟩ : ∃ L0, Ns.cons 6 (identB p) .nil (numN ve .nil) = L0 := ⟨_, rfl⟩
    have hl2 : L0.len = 2 := by rw [← hL0]; rfl
    rw [hL0] at HOW
    have HL0 := Lib.hid hL0; have HL2 := Lib.hid hl2
    clear hL0 hl2
    rcases (show (p = 2 ∨ p = 3) ∨ p = 4 ∨ (p = 5 ∨ p = 6) by omega) with h | h | h
    · have HP := Lib.hid h
      have hb1 := BsS.fresh wc [ofI r] #[U8 (ofI r)] 5 rfl (fun b => b < (wc.alloc (.cells #[U8 (ofI r)] 5)).heap.size) (by simp) (by simp)
      have HPR := Lib.hid (prim_any 2 _ _ _ hb1)
      have HM1 : Hid (1 = (numN r .nil).len) := Lib.hid rfl
      have hml : L0.len + (numN r .nil).len ≤ 1000000000000 := by rw [HL2.out]; simp [Ns.len, numN]
      clear hb1 x3 x4
      rcases h with rfl | rfl
      all_goals
        go_wp2_with (first
          | (go_at_call 77; refine HPR.out.mono ?_; rintro e w5 ⟨v5, rfl, h1, h2⟩; obtain ⟨a5, c5, rfl⟩ := h1.form2; have hw5 : Below wc.heap.size wc w5 := ((Below.refl _ _).alloc (Nat.le_refl _) _).trans (h2.mono (by simp)); have HW5 := Lib.hid hw5; have HV5 : Hid (BsS w5 (New wc w5) (.slice a5 1 c5) [ofI r]) := Lib.hid (h1.keep fun b hs _ => ⟨rfl, by have := hs.1; simp at this; omega, hs.2⟩); clear h1 h2 hw5)
          | (at_builtin; (with_reducible refine wpList_nodes (w := w5.alloc (.cells #[.int .i64 2, .slice a5 1 c5, .slice none 0 0] 53)) rfl (.tmp 19) (.tmp 25) rfl w0.heap.size (fun _ => False) (.slice ao 2 co) L0 (numN r .nil) rfl (own_later HOW.out HW5.out _) w5.heap.size 1 [.int .i64 2, .slice a5 1 c5, .slice none 0 0] #[.int .i64 2, .slice a5 1 c5, .slice none 0 0] 53 (0, 0) rfl HM1.out (heap_alloc_new _ _) rfl (each_num HOW.out HW5.out hw0c HV5.out _) hml (by rw [alloc_size]; have := HW5.out.size; omega) id ?_); intro o' w' hG; obtain ⟨ao2, co2, rfl⟩ : ∃ A c, o' = .slice A 3 c := (by have := hG.1.form; rw [Ns.len_app, HL2.out] at this; exact this); have HBE := Lib.hid ((HBC.out.trans ((HW5.out.alloc HW5.out.size (.cells #[.int .i64 2, .slice a5 1 c5, .slice none 0 0] 53)).mono hw0c)).trans hG.2.1); have HOE := Lib.hid hG.1; clear hG)
          | (go_at_call 54; refine (rcon_any 48 _ _ ⟨_, _, _, rfl⟩).mono ?_; rintro e w6 ⟨rfl, h6⟩; have HB6 := Lib.hid h6; obtain ⟨r0, r1, r2, rf⟩ := node_three ((h6.block (w.heap.size + 1) (by have := HZ.out; have := HBE.out.size; omega)).trans ((HBE.out.block (w.heap.size + 1) (by have := HZ.out; omega)).trans HRES.out)); have rf0 := rf 0; have rf1 := rf 1; have rf2 := rf 2; clear h6 rf))
        obtain ⟨y0, y1, y2, _⟩ := node_three (row_set (o := 2) (v := .slice ao2 3 co2) (row_set (o := 1) (v := .slice none 0 0) (row_set (o := 0) (v := .int .i64 48) ((HB6.out.block (w.heap.size + 1) (by have := HZ.out; have := HBE.out.size; omega)).trans ((HBE.out.block (w.heap.size + 1) (by have := HZ.out; omega)).trans HRES.out)))))
        exact bodyPost_ret (v := .agg #[.int .i64 48, .slice none 0 0, .slice ao2 3 co2]) (by simp [results, Tryd.results53, go_sem, y0, y1, y2]) rfl (END.out _ (.slice ao2 3 co2) ((L0.app (numN r .nil))) (by rw [← HL0.out]; rfl) HOE.out HBE.out _ HB6.out)
    · subst h
      have hk4 : elemP k = true := by
        have : chkB 4 ve r k d false true (elemP k) = 0 := hx
        unfold chkB at this
        cases h : elemP k with
        | true => rfl
        | false =>
          rw [h] at this
          simp only [if_true, true_and, true_or] at this
          (repeat' split at this) <;> first | contradiction | omega | simp_all
      have hkb := elem_lt hk4
      have HF4 := Lib.hid (fun w => four_any k w hkb.1 (by omega))
      clear hk4 hkb
      go_upto_region 7 with fail
      refine wp_region_rg 11 [some 29, some 30, some 31, some 32, some 33, some 34, some 35, some 36, some 37, some 38, some 39] [[], [], [1], [1, 2], [1, 2, 3], [], [5], [5, 6], [5, 6, 7], [1, 2, 3, 4, 5, 6, 7, 8], [1, 2, 3, 4, 5, 6, 7, 8, 9]]
        (fun _ _ w1 => Below wc.heap.size wc w1) (fun w1 w2 => Below w1.heap.size w1 w2)
        [fun v _ => v 0 = .slice ao 2 co,
         fun v _ => v 1 = .pointer (some ⟨w.heap.size, 3, none⟩),
         fun v _ => v 2 = .int .i64 k,
         fun v w1 => BsS w1 (New wc w1) (v 3) (fourB k),
         fun v w1 => ∃ a c, v 4 = .agg #[.int .i64 4, .slice a (fourB k).length c, .slice none 0 0] ∧ BsS w1 (New wc w1) (.slice a (fourB k).length c) (fourB k),
         fun v _ => v 5 = .pointer (some ⟨w.heap.size, 4, none⟩),
         fun v _ => v 6 = .int .i64 d,
         fun v _ => v 7 = U8 (ofI d),
         fun v w1 => BsS w1 (New wc w1) (v 8) [ofI d],
         fun v w1 => ∃ a c, v 9 = .agg #[.int .i64 2, .slice a ([ofI d]).length c, .slice none 0 0] ∧ BsS w1 (New wc w1) (.slice a ([ofI d]).length c) ([ofI d]),
         fun v w1 => ∃ a c a2 c2 g, v 10 = .slice (some ⟨g, 0, none⟩) 2 2 ∧ wc.heap.size ≤ g ∧ BsS w1 (fun b => New wc w1 b ∧ b ≠ g) (.slice a (fourB k).length c) (fourB k) ∧ BsS w1 (fun b => New wc w1 b ∧ b ≠ g) (.slice a2 ([ofI d]).length c2) ([ofI d]) ∧ w1.heap[g]? = some (.cells #[.int .i64 4, .slice a (fourB k).length c, .slice none 0 0, .int .i64 2, .slice a2 ([ofI d]).length c2, .slice none 0 0] 53)]
        (by kernel_rfl) (by kernel_rfl) (fun _ => (Below.refl _ _).drew) ?st ?steps ?tail
      case st =>
        exact (.cons (fun _ _ _ _ _ _ h => h) (.cons (fun _ _ _ _ _ _ h => h) (.cons (fun _ _ _ _ _ _ h => h) (.cons (fun _ _ _ _ _ hr h => BsS.keep h fun b hs hl => ⟨hr.block b hl, hs.1, Nat.lt_of_lt_of_le hs.2 hr.size⟩) (.cons (fun _ _ _ _ _ hr ⟨a, c, e, h⟩ => ⟨a, c, e, BsS.keep h fun b hs hl => ⟨hr.block b hl, hs.1, Nat.lt_of_lt_of_le hs.2 hr.size⟩⟩) (.cons (fun _ _ _ _ _ _ h => h) (.cons (fun _ _ _ _ _ _ h => h) (.cons (fun _ _ _ _ _ _ h => h) (.cons (fun _ _ _ _ _ hr h => BsS.keep h fun b hs hl => ⟨hr.block b hl, hs.1, Nat.lt_of_lt_of_le hs.2 hr.size⟩) (.cons (fun _ _ _ _ _ hr ⟨a, c, e, h⟩ => ⟨a, c, e, BsS.keep h fun b hs hl => ⟨hr.block b hl, hs.1, Nat.lt_of_lt_of_le hs.2 hr.size⟩⟩) (.cons (fun _ _ _ _ _ hr ⟨a, c, a2, c2, g, e, h1, h, h3, h2⟩ => ⟨a, c, a2, c2, g, e, h1, BsS.keep h fun b hs hl => ⟨hr.block b hl, ⟨hs.1.1, Nat.lt_of_lt_of_le hs.1.2 hr.size⟩, hs.2⟩, BsS.keep h3 fun b hs hl => ⟨hr.block b hl, ⟨hs.1.1, Nat.lt_of_lt_of_le hs.1.2 hr.size⟩, hs.2⟩, (hr.block g (Array.getElem?_eq_some_iff.1 h2).1).trans h2⟩) .nil)))))))))))
      case steps =>
        simp only [List.take_succ_cons, List.take_zero]
        refine (.cons ?_ (.cons ?_ (.cons ?_ (.cons ?_ (.cons ?_ (.cons ?_ (.cons ?_ (.cons ?_ (.cons ?_ (.cons ?_ (.cons ?_ .nil)))))))))))
        all_goals (intro L v w1 hJ hL hA hF K hK; simp only [fillRG, Act.put, Nat.zero_add, Nat.reduceAdd, List.setIfInBounds_toArray, List.set_cons_zero, List.set_cons_succ] at hK ⊢)
        · go_simp
          refine hK _ _ hJ (Below.refl _ _) ?_
          first | exact rfl | exact val_mod _
        · go_simp
          refine hK _ _ hJ (Below.refl _ _) ?_
          first | exact rfl | exact val_mod _
        · have e1 : v 1 = .pointer (some ⟨w.heap.size, 3, none⟩) := hF 1 (hA 1 (by simp))
          have c0 := (BXC.out _ hJ).2.2.2.1
          simp only [e1] at hK
          go_simp
          refine hK _ _ hJ (Below.refl _ _) ?_
          first | exact rfl | exact val_mod _
        · have e2 : v 2 = .int .i64 k := hF 2 (hA 2 (by simp))
          simp only [e2] at hK
          go_simp
          refine (HF4.out _).mono ?_
          rintro e w5 ⟨v5, rfl, h1, h2⟩
          exact hK _ _ (hJ.trans (h2.mono hJ.size)) h2 (h1.keep fun b hs _ => ⟨rfl, Nat.le_trans hJ.size hs.1, hs.2⟩)
        · have hb : BsS w1 (New wc w1) (v 3) (fourB k) := hF 3 (hA 3 (by simp))
          obtain ⟨a5, c5, r5⟩ := hb.form2
          rw [r5] at hb
          simp only [r5] at hK
          have HPC := Lib.hid (prim_any 4 (.slice a5 (fourB k).length c5) (fourB k) w1 (hb.keep fun b hs _ => ⟨rfl, hs.2⟩))
          clear hb
          go_simp
          refine HPC.out.mono ?_
          rintro e w5 ⟨v5, rfl, h1, h2⟩
          obtain ⟨a6, c6, rfl⟩ := h1.form2
          exact hK _ _ (hJ.trans (h2.mono hJ.size)) h2 ⟨_, _, rfl, h1.keep fun b hs _ => ⟨rfl, Nat.le_trans hJ.size hs.1, hs.2⟩⟩
        · go_simp
          refine hK _ _ hJ (Below.refl _ _) ?_
          first | exact rfl | exact val_mod _
        · have e5 : v 5 = .pointer (some ⟨w.heap.size, 4, none⟩) := hF 5 (hA 5 (by simp))
          have c0 := (BXC.out _ hJ).2.2.2.2
          simp only [e5] at hK
          go_simp
          refine hK _ _ hJ (Below.refl _ _) ?_
          first | exact rfl | exact val_mod _
        · have e6 : v 6 = .int .i64 d := hF 6 (hA 6 (by simp))
          simp only [e6] at hK
          go_simp
          refine hK _ _ hJ (Below.refl _ _) ?_
          first | exact rfl | exact val_mod _
        · have e7 : v 7 = U8 (ofI d) := hF 7 (hA 7 (by simp))
          simp only [e7] at hK
          go_simp
          refine hK _ _ (hJ.alloc hJ.size _) ((Below.refl _ _).alloc (Nat.le_refl _) _) ?_
          exact BsS.fresh w1 [ofI d] #[U8 (ofI d)] 5 rfl _ ⟨hJ.size, by simp⟩ (by simp)
        · have hb : BsS w1 (New wc w1) (v 8) ([ofI d]) := hF 8 (hA 8 (by simp))
          obtain ⟨a5, c5, r5⟩ := hb.form2
          rw [r5] at hb
          simp only [r5] at hK
          have HPC := Lib.hid (prim_any 2 (.slice a5 ([ofI d]).length c5) ([ofI d]) w1 (hb.keep fun b hs _ => ⟨rfl, hs.2⟩))
          clear hb
          go_simp
          refine HPC.out.mono ?_
          rintro e w5 ⟨v5, rfl, h1, h2⟩
          obtain ⟨a6, c6, rfl⟩ := h1.form2
          exact hK _ _ (hJ.trans (h2.mono hJ.size)) h2 ⟨_, _, rfl, h1.keep fun b hs _ => ⟨rfl, Nat.le_trans hJ.size hs.1, hs.2⟩⟩
        · obtain ⟨a5, c5, e5, h5⟩ : ∃ a c, v 4 = .agg #[.int .i64 4, .slice a (fourB k).length c, .slice none 0 0] ∧ BsS w1 (New wc w1) (.slice a (fourB k).length c) (fourB k) := hF 4 (hA 4 (by simp))
          obtain ⟨a6, c6, e6, h6⟩ : ∃ a c, v 9 = .agg #[.int .i64 2, .slice a ([ofI d]).length c, .slice none 0 0] ∧ BsS w1 (New wc w1) (.slice a ([ofI d]).length c) ([ofI d]) := hF 9 (hA 9 (by simp))
          have H5 := Lib.hid h5; have H6 := Lib.hid h6
          clear h5 h6
          simp only [e5, e6] at hK
          go_simp
          exact hK _ _ (hJ.alloc hJ.size _) ((Below.refl _ _).alloc (Nat.le_refl _) _) ⟨_, _, _, _, _, rfl, hJ.size, H5.out.keep fun b hs hl => ⟨Below.heap_alloc _ _ _ hl, ⟨hs.1, by have := hs.2; simp; omega⟩, Nat.ne_of_lt hs.2⟩, H6.out.keep fun b hs hl => ⟨Below.heap_alloc _ _ _ hl, ⟨hs.1, by have := hs.2; simp; omega⟩, Nat.ne_of_lt hs.2⟩, heap_alloc_new _ _⟩
      case tail =>
        intro v w1 hJ hF
        have e0 : v 0 = .slice ao 2 co := hF 0 (by simp)
        have e1 : v 1 = .pointer (some ⟨w.heap.size, 3, none⟩) := hF 1 (by simp)
        have e2 : v 2 = .int .i64 k := hF 2 (by simp)
        have e5 : v 5 = .pointer (some ⟨w.heap.size, 4, none⟩) := hF 5 (by simp)
        have e6 : v 6 = .int .i64 d := hF 6 (by simp)
        have e7 : v 7 = U8 (ofI d) := hF 7 (by simp)
        obtain ⟨a5, c5, a6, c6, g, e10, hg, h5, h6, hgc⟩ : ∃ a c a2 c2 g, v 10 = .slice (some ⟨g, 0, none⟩) 2 2 ∧ wc.heap.size ≤ g ∧ BsS w1 (fun b => New wc w1 b ∧ b ≠ g) (.slice a 4 c) (fourB k) ∧ BsS w1 (fun b => New wc w1 b ∧ b ≠ g) (.slice a2 1 c2) [ofI d] ∧ w1.heap[g]? = some (.cells #[.int .i64 4, .slice a 4 c, .slice none 0 0, .int .i64 2, .slice a2 1 c2, .slice none 0 0] 53) := hF 10 (by simp)
        simp only [List.drop_succ_cons, List.drop_zero, fillRG, Act.put, Nat.zero_add, Nat.reduceAdd, List.setIfInBounds_toArray, List.set_cons_zero, List.set_cons_succ]
        have hoff : ∀ b, (New wc w1 b ∧ b ≠ g) → b < w1.heap.size → w1.heap[b]? = w1.heap[b]? ∧ OffX w0.heap.size (fun _ => False) w1 (.slice ao 2 co) b := fun b hs hl => ⟨rfl, off_later HOW.out hw0c hs.1.1 hl⟩
        have HM3 : Hid (EachN w1 (OffX w0.heap.size (fun _ => False) w1 (.slice ao 2 co)) (.cons 4 (fourB k) .nil (numN d .nil)) [.int .i64 4, .slice a5 4 c5, .slice none 0 0, .int .i64 2, .slice a6 1 c6, .slice none 0 0]) := Lib.hid ⟨_, _, _, rfl, by simp [I64in], h5.keep hoff, NsS.nil0 _ _, _, _, _, rfl, by simp [I64in], h6.keep hoff, NsS.nil0 _ _, rfl⟩
        have HGC := Lib.hid hgc; have HJ := Lib.hid hJ
        have HM1 : Hid (2 = (Ns.cons 4 (fourB k) .nil (numN d .nil)).len) := Lib.hid rfl
        have hml : L0.len + (Ns.cons 4 (fourB k) .nil (numN d .nil)).len ≤ 1000000000000 := by rw [HL2.out]; simp [Ns.len, numN]
        clear hoff h5 h6 hgc hg hJ hF
        go_wp2_with (first
          | (at_builtin; (with_reducible refine wpList_nodes rfl (.tmp 29) (.tmp 39) rfl w0.heap.size (fun _ => False) (.slice ao 2 co) L0 (.cons 4 (fourB k) .nil (numN d .nil)) (by simp [Act.eval, e0]) (HOW.out.below HJ.out) g 2 [.int .i64 4, .slice a5 4 c5, .slice none 0 0, .int .i64 2, .slice a6 1 c6, .slice none 0 0] #[.int .i64 4, .slice a5 4 c5, .slice none 0 0, .int .i64 2, .slice a6 1 c6, .slice none 0 0] 53 (0, 0) (by simp [Act.eval, e10]) HM1.out HGC.out rfl HM3.out hml (Nat.le_trans hw0c HJ.out.size) id ?_); intro o' w' hG; obtain ⟨ao2, co2, rfl⟩ : ∃ A c, o' = .slice A 4 c := (by have := hG.1.form; rw [Ns.len_app, HL2.out] at this; exact this); have HBE := Lib.hid ((HBC.out.trans (HJ.out.mono hw0c)).trans hG.2.1); have HOE := Lib.hid hG.1; clear hG)
          | (go_at_call 54; refine (rcon_any 48 _ _ ⟨_, _, _, rfl⟩).mono ?_; rintro e w6 ⟨rfl, h6⟩; have HB6 := Lib.hid h6; obtain ⟨r0, r1, r2, rf⟩ := node_three ((h6.block (w.heap.size + 1) (by have := HZ.out; have := HBE.out.size; omega)).trans ((HBE.out.block (w.heap.size + 1) (by have := HZ.out; omega)).trans HRES.out)); have rf0 := rf 0; have rf1 := rf 1; have rf2 := rf 2; clear h6 rf))
        obtain ⟨y0, y1, y2, _⟩ := node_three (row_set (o := 2) (v := .slice ao2 4 co2) (row_set (o := 1) (v := .slice none 0 0) (row_set (o := 0) (v := .int .i64 48) ((HB6.out.block (w.heap.size + 1) (by have := HZ.out; have := HBE.out.size; omega)).trans ((HBE.out.block (w.heap.size + 1) (by have := HZ.out; omega)).trans HRES.out)))))
        exact bodyPost_ret (v := .agg #[.int .i64 48, .slice none 0 0, .slice ao2 4 co2]) (by simp [results, Tryd.results53, go_sem, y0, y1, y2]) rfl (END.out _ (.slice ao2 4 co2) ((L0.app (.cons 4 (fourB k) .nil (numN d .nil)))) (by rw [← HL0.out]; rfl) HOE.out HBE.out _ HB6.out)
    · have h2 : ((p : Int) == 2) = false := by simp; omega
      have h3 : ((p : Int) == 3) = false := by simp; omega
      have h4 : ((p : Int) == 4) = false := by simp; omega
      have HNM : Hid (¬ (p = 2 ∨ p = 3) ∧ ¬ p = 4) := Lib.hid ⟨by omega, by omega⟩
      have HBE : Hid (Below w0.heap.size w0 wc) := HBC
      clear h x3 x4
      go_wp2_with (go_at_call 54; refine (rcon_any 48 _ _ ⟨_, _, _, rfl⟩).mono ?_; rintro e w6 ⟨rfl, h6⟩; have HB6 := Lib.hid h6; obtain ⟨r0, r1, r2, rf⟩ := node_three ((h6.block (w.heap.size + 1) (by have := HZ.out; have := HBE.out.size; omega)).trans ((HBE.out.block (w.heap.size + 1) (by have := HZ.out; omega)).trans HRES.out)); have rf0 := rf 0; have rf1 := rf 1; have rf2 := rf 2; clear h6 rf)
      obtain ⟨y0, y1, y2, _⟩ := node_three (row_set (o := 2) (v := .slice ao 2 co) (row_set (o := 1) (v := .slice none 0 0) (row_set (o := 0) (v := .int .i64 48) ((HB6.out.block (w.heap.size + 1) (by have := HZ.out; have := HBE.out.size; omega)).trans ((HBE.out.block (w.heap.size + 1) (by have := HZ.out; omega)).trans HRES.out)))))
      exact bodyPost_ret (v := .agg #[.int .i64 48, .slice none 0 0, .slice ao 2 co]) (by simp [results, Tryd.results53, go_sem, y0, y1, y2]) rfl (END.out _ (.slice ao 2 co) (L0) (by rw [← HL0.out]; simp only [kidsI, moreN]; rw [if_neg HNM.out.1, if_neg HNM.out.2]) HOW.out HBE.out _ HB6.out)
end Go.Proofs.YtdpiehhblflacaaDoor
