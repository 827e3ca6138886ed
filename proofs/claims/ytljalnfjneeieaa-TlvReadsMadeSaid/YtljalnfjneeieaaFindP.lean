/- Layer 2: what Find looks for (plain), and the walk of the reference's Find. -/
import Derived.Test.YtljalnfjneeieaaTlvM
import Derived.Test.YtljalnfjneeieaaTlvF
import Derived.Test.YtljalnfjneeieaaRows2
import Derived.Deep.RegionWith
namespace Go.Proofs.Ytljalnfjneeieaa
open Go.RowKit Go.Deep

/-- The first object with a tag. -/
def Ns.pick : Ns → Int → Option (List UInt8 × Ns)
  | .nil, _ => none
  | .cons t v k r, g => if t = g then some (v, k) else r.pick g
/-- The object at the end of a path: its tag, bytes and kids; zero and nothing where there is none. -/
structure Fnd where
  ok : Bool
  tag : Int
  val : List UInt8
  kids : Ns
def Fnd.no : Fnd := ⟨false, 0, [], .nil⟩
def findR : List Int → Ns → Fnd
  | [], _ => .no
  | g :: p, l =>
    match l.pick g with
    | none => .no
    | some (v, k) => if p = [] then ⟨true, g, v, k⟩ else findR p k
/-- A slice of numbers that are known. -/
def IntL (w : World) (S : Nat → Prop) (v : Value) (l : List Int) : Prop :=
  ∃ a c, v = .slice a l.length c ∧ l.length ≤ c ∧ c ≤ 9223372036854775807 ∧ l.length ≤ 1000000000000000000 ∧ (∀ z ∈ l, I64in z) ∧
    (0 < l.length → ∃ b off, a = some ⟨b, off, none⟩ ∧ S b ∧ b < w.heap.size ∧ ∀ j, j < l.length → w.cell? ⟨b, off + j, none⟩ = some (.int .i64 (l.getD j 0)))
theorem IntL.keep {w w' : World} {S S' : Nat → Prop} {v : Value} {l : List Int} (h : IntL w S v l) (hk : ∀ b, S b → b < w.heap.size → w'.heap[b]? = w.heap[b]? ∧ S' b) : IntL w' S' v l := by
  obtain ⟨a, c, e, h1, h2, h3, hz, h4⟩ := h
  refine ⟨a, c, e, h1, h2, h3, hz, fun h0 => ?_⟩
  obtain ⟨b, off, ea, hb, hl, hr⟩ := h4 h0
  refine ⟨b, off, ea, (hk b hb hl).2, lt_of_same (hk b hb hl).1 hl, fun j hj => ?_⟩
  exact (by simp [World.cell?, (hk b hb hl).1] : w'.cell? ⟨b, off + j, none⟩ = w.cell? ⟨b, off + j, none⟩).trans (hr j hj)
/-- What Find answers. -/
def FndOut (r : Fnd) (S : Nat → Prop) (w : World) (e : Ending) (w' : World) : Prop :=
  ∃ vv kv, e = .returned (.tuple #[.agg #[.int .i64 r.tag, vv, kv], .bool r.ok]) ∧ BsS w' S vv r.val ∧ NsS w' S kv r.kids ∧ I64in r.tag ∧ Below w.heap.size w w'
theorem FndOut.none {S : Nat → Prop} {w w' : World} {r : Fnd} (h : r = .no) (hb : Below w.heap.size w w') : FndOut r S w (.returned (.tuple #[.agg #[.int .i64 0, .slice none 0 0, .slice none 0 0], .bool false])) w' := by
  subst h
  exact ⟨_, _, rfl, BsS.nil0 _ _, NsS.nil0 _ _, ⟨by decide, by decide⟩, hb⟩
/-- Behind the stores into the result's own block, which S does not hold. -/
theorem fnd_sets {S : Nat → Prop} {w w5 : World} {r r1 : Fnd} {vv kv x y z : Value} (e : r = r1) (hv : BsS w5 S vv r1.val) (hk : NsS w5 S kv r1.kids) (ht : I64in r1.tag) (hb : Below w.heap.size w w5) (hS : ∀ b, S b → b < w.heap.size := by assumption) :
    FndOut r S w (.returned (.tuple #[.agg #[.int .i64 r1.tag, vv, kv], .bool r1.ok])) (((w5.setCell ⟨w.heap.size, 0, none⟩ x).setCell ⟨w.heap.size, 1, none⟩ y).setCell ⟨w.heap.size, 2, none⟩ z) := by
  subst e
  have hk' : ∀ b, S b → b < w5.heap.size → (((w5.setCell ⟨w.heap.size, 0, none⟩ x).setCell ⟨w.heap.size, 1, none⟩ y).setCell ⟨w.heap.size, 2, none⟩ z).heap[b]? = w5.heap[b]? ∧ S b := fun b hs _ => by
    have := hS b hs
    exact ⟨by rw [Below.heap_setCell _ _ _ _ (by show b ≠ w.heap.size; omega), Below.heap_setCell _ _ _ _ (by show b ≠ w.heap.size; omega), Below.heap_setCell _ _ _ _ (by show b ≠ w.heap.size; omega)], hs⟩
  exact ⟨_, _, rfl, hv.keep hk', hk.keep hk', ht, ((hb.setCell (p := ⟨w.heap.size, 0, none⟩) (Nat.le_refl _) _).setCell (p := ⟨w.heap.size, 1, none⟩) (Nat.le_refl _) _).setCell (p := ⟨w.heap.size, 2, none⟩) (Nat.le_refl _) _⟩
set_option maxRecDepth 100000 in
set_option maxHeartbeats 4000000 in
theorem rfind_any (ps : List Int) : ∀ (L : Ns) (v vp : Value) (S S' : Nat → Prop) (w : World), (∀ b, S b → b < w.heap.size) → NsS w S v L → IntL w S' vp ps →
    Calls Try.prog 36 #[v, vp] w (FndOut (findR ps L) S w) := by
  induction ps with
  | nil =>
    intro L v vp S S' w hS hv hp
    obtain ⟨a, cap, rfl⟩ := hv.form2
    obtain ⟨pa, pc, rfl, _⟩ := hp
    simp only [List.length_nil]
    clear hv
    go_enter Try.func36, Try.ntmps36
    go_wp2_with fail
    refine wp_loop_rounds 1 ?_
    rw [rounds_succ]
    go_wp2_with fail
    obtain ⟨y0, y1, y2, _⟩ := three (heap_alloc_new w (.cells #[.int .i64 0, .slice none 0 0, .slice none 0 0] 42))
    exact bodyPost_ret (v := .tuple #[.agg #[.int .i64 0, .slice none 0 0, .slice none 0 0], .bool false]) (by simp [results, Try.results36, go_sem, y0, y1, y2]) rfl (FndOut.none rfl ((Below.refl _ _).alloc (Nat.le_refl _) _))
  | cons g p ih =>
    intro L v vp S S' w hS hv hp
    obtain ⟨a, cap, rfl, hlc, hcap, hlen, hcells⟩ := hv
    have hcap' : cap ≤ 9223372036854775807 := hcap
    obtain ⟨b, off, hb⟩ : ∃ b off, Hid (0 < L.len → a = some ⟨b, off, none⟩ ∧ (S b ∧ b < w.heap.size) ∧ NsAt w S L b off) := by
      rcases Nat.eq_zero_or_pos L.len with h0 | h0
      · exact ⟨0, 0, fun h => by omega⟩
      · obtain ⟨b, off, h1, h2, h3, h4⟩ := hcells h0
        exact ⟨b, off, fun _ => ⟨h1, ⟨h2, h3⟩, h4⟩⟩
    obtain ⟨pa, pc, rfl, pl, pc9, pl9, pz, pcell⟩ := hp
    obtain ⟨pb, po, rfl, pS, pbl, pcs⟩ := pcell (by simp)
    have pc0 := pcs 0 (by simp)
    rw [Nat.add_zero] at pc0
    have pc0 : w.cell? ⟨pb, po, none⟩ = some (.int .i64 g) := pc0
    have hgi : I64in g := pz g (by simp)
    have PC := Lib.hid pcs; have PZ := Lib.hid pz
    obtain ⟨pn, hpn⟩ : ∃ pn, Hid (p.length = pn) := ⟨_, rfl⟩
    simp only [List.length_cons] at pl pl9 ⊢
    rw [hpn.out] at pl pl9 ⊢
    have hln1 : (((pn + 1 : Nat) : Int) > 0) := by omega
    have HS := Lib.hid hS
    clear hcells hcap pcell pcs pz
    go_enter Try.func36, Try.ntmps36
    go_wp2_with fail
    obtain ⟨w0, hw0⟩ : ∃ w0, w0 = w.alloc (.cells #[.int .i64 0, .slice none 0 0, .slice none 0 0] 42) := ⟨_, rfl⟩
    rw [← hw0]
    have hz : w0.heap[w.heap.size]? = some (.cells #[.int .i64 0, .slice none 0 0, .slice none 0 0] 42 (0, 0)) := by rw [hw0]; exact heap_alloc_new _ _
    have hB0 : Below w.heap.size w w0 := by rw [hw0]; exact (Below.refl _ _).alloc (Nat.le_refl _) _
    have pc0 : w0.cell? ⟨pb, po, none⟩ = some (.int .i64 g) := (hB0.cell pbl).trans pc0
    have HZ := Lib.hid hz; have HB := Lib.hid hB0
    have hpl : w.heap.size < w0.heap.size := (Array.getElem?_eq_some_iff.1 hz).1
    obtain ⟨z0, z1, z2, zf⟩ := three hz
    have f0 := zf 0; have f1 := zf 1; have f2 := zf 2
    clear hw0 hz hB0 zf
    have BS := Lib.hid (fun (x y z : Value) (w1 : World) (h : Below w.heap.size w w1) => ((h.setCell (p := ⟨w.heap.size, 0, none⟩) (Nat.le_refl _) x).setCell (p := ⟨w.heap.size, 1, none⟩) (Nat.le_refl _) y).setCell (p := ⟨w.heap.size, 2, none⟩) (Nat.le_refl _) z)
    go_loopg [6] L.len (fun m i wr => ∃ (R : Ns) (j : Nat), R.len = m ∧ j + R.len = L.len ∧ i = .int .i64 j ∧ Hid (R.pick g = L.pick g) ∧ NsAt w S R b (off + j * 3) ∧ ∃ q, wr = w0.drewN q)
    case atStart => exact ⟨L, 0, rfl, by omega, rfl, rfl, by rw [Nat.zero_mul, Nat.add_zero]; exact NsAt.zero hb.out, 0, rfl⟩
    case round =>
      obtain ⟨R, j, rfl, hj, rfl, hpk, hat, q, rfl⟩ := hrel
      cases R with
      | nil =>
        simp only [Ns.len, Nat.add_zero] at hj
        subst hj
        have E : Hid (findR (g :: p) L = .no) := by show findR _ _ = _; rw [findR, ← hpk.out]; rfl
        clear hat hpk ih
        go_wp2_with fail
        obtain ⟨y0, y1, y2, _⟩ := three (three_set2 (u := .slice none 0 0) (three_set1 (u := .slice none 0 0) (three_set0 (u := .int .i64 0) (show (w0.drewN q).heap[w.heap.size]? = _ from HZ.out))))
        exact bodyPost_ret (v := .tuple #[.agg #[.int .i64 0, .slice none 0 0, .slice none 0 0], .bool false]) (by simp [results, Try.results36, go_sem, y0, y1, y2]) rfl (FndOut.none E.out (BS.out (.int .i64 0) (.slice none 0 0) (.slice none 0 0) _ (below_drewN HB.out q)))
      | cons t v k r =>
        obtain ⟨h1, h2, ⟨x, h3, h4⟩, ⟨ka, kc, h5, h6, h7, h8x, h9⟩, h10⟩ := hat
        simp only [Ns.len] at hj
        have hlt : (j : Int) < L.len := by omega
        obtain ⟨rfl, ⟨hbS, hbl⟩, _⟩ := hb.out (by omega)
        obtain ⟨xa, xc, rfl⟩ := h4.form2
        have q0 : w0.cell? ⟨b, off + j * 3, none⟩ = some (.int .i64 t) := (HB.out.cell hbl).trans h1
        have q1 : w0.cell? ⟨b, off + j * 3 + 1, none⟩ = some (.slice xa v.length xc) := (HB.out.cell hbl).trans h3
        have q2 : w0.cell? ⟨b, off + j * 3 + 2, none⟩ = some (.slice ka k.len kc) := (HB.out.cell hbl).trans h5
        have hkid : NsS w S (.slice ka k.len kc) k := ⟨ka, kc, rfl, h6, h7, h8x, h9⟩
        have HK := Lib.hid hkid; have HX := Lib.hid h4; have H10 := Lib.hid h10
        clear hkid h4 h9 h10 h1 h3 h5
        by_cases ht : t = g
        · subst ht
          have tg : (t == t) = true := by simp
          have hpick : L.pick t = some (v, k) := by rw [← hpk.out]; simp [Ns.pick]
          clear hpk
          by_cases hp0 : p = []
          · have E : Hid (findR (t :: p) L = ⟨true, t, v, k⟩) := by show findR _ _ = _; rw [findR, hpick]; simp [hp0]
            have hpn0 : ((((pn + 1 : Nat) : Int)) == 1) = true := by rw [beq_iff_eq]; have := hpn.out; rw [hp0] at this; simp at this; omega
            clear ih hp0 hpick
            go_wp2_with fail
            go_quiet (fail)
            go_wp2_with fail
            obtain ⟨y0, y1, y2, _⟩ := three (three_set2 (u := .slice ka k.len kc) (three_set1 (u := .slice xa v.length xc) (three_set0 (u := .int .i64 t) (show (w0.drewN (q + nq)).heap[w.heap.size]? = _ from HZ.out))))
            have BE := BS.out (.int .i64 t) (.slice xa v.length xc) (.slice ka k.len kc) _ (below_drewN HB.out (q + nq))
            refine bodyPost_ret (v := .tuple #[.agg #[.int .i64 t, .slice xa v.length xc, .slice ka k.len kc], .bool true]) (by simp [results, Try.results36, go_sem, y0, y1, y2]) rfl ?_
            rw [E.out]
            exact ⟨_, _, rfl, HX.out.below BE, HK.out.below BE, hgi, BE⟩
          · have E : Hid (findR (t :: p) L = findR p k) := by show findR _ _ = _; rw [findR, hpick]; simp [hp0]
            have hpn1 : 1 ≤ pn := by
              have := hpn.out
              cases p with
              | nil => exact absurd rfl hp0
              | cons _ _ => simp at this; omega
            have hpn0 : ((((pn + 1 : Nat) : Int)) == 1) = false := by rw [beq_eq_false_iff_ne]; omega
            have hI : IntL w S' (.slice (some ⟨pb, po + 1, none⟩) pn (pc - 1)) p := by
              refine ⟨_, pc - 1, by rw [hpn.out], by rw [hpn.out]; omega, by omega, by rw [hpn.out]; omega, fun z hz => PZ.out z (by simp [hz]), fun _ => ⟨pb, po + 1, rfl, pS, pbl, fun j hj => ?_⟩⟩
              have := PC.out (j + 1) (by simp; omega)
              rw [show po + 1 + j = po + (j + 1) by omega]
              simpa using this
            have HI := Lib.hid (fun (w1 : World) (h : Below w.heap.size w w1) => ih k (.slice ka k.len kc) (.slice (some ⟨pb, po + 1, none⟩) pn (pc - 1)) S S' w1 (fun b hs => Nat.lt_of_lt_of_le (hS b hs) h.size) (HK.out.below h) (hI.keep fun b hs hl => ⟨h.block b hl, hs⟩))
            have hpc1 : ¬ pc = 1 := by omega
            have hpc2 : 1 ≤ pc := by omega
            clear ih hp0 hpick hI
            go_upto_region 7 with fail
            go_quiet (fail)
            go_upto_region 7 with fail
            obtain ⟨R1, hR1⟩ : ∃ R1, Hid (findR p k = R1) := ⟨_, rfl⟩
            have HI := HI
            rw [hR1.out] at HI E
            go_region_with (go_at_call 36; refine (HI.out _ (by first | exact below_drewN HB.out _ | exact (below_drewN HB.out _).drew)).mono ?_; intro e w5 h5; obtain ⟨vv, kv, rfl, hvv, hkv, hti, hb5⟩ := h5; obtain ⟨xa5, xc5, rfl⟩ := hvv.form2; obtain ⟨ka5, kc5, rfl⟩ := hkv.form2; have hz5 := (hb5.block w.heap.size hpl).trans HZ.out; have HZ5 := Lib.hid hz5; obtain ⟨a0, a1, a2, af⟩ := three hz5; have g0 := af 0; have g1 := af 1; have g2 := af 2; have B5 : Hid (Below w.heap.size w w5) := (by show Below _ _ _; exact Below.trans (by first | exact below_drewN HB.out _ | exact (below_drewN HB.out _).drew) (hb5.mono HB.out.size)); have HV5 := Lib.hid hvv; have HK5 := Lib.hid hkv; have HTI := Lib.hid hti; clear hz5 af hvv hkv hti hb5)
            all_goals go_wp2_with fail
            all_goals obtain ⟨y0, y1, y2, _⟩ := three (three_set2 (u := .slice ka5 R1.kids.len kc5) (three_set1 (u := .slice xa5 R1.val.length xc5) (three_set0 (u := .int .i64 R1.tag) HZ5.out)))
            all_goals refine bodyPost_ret (v := .tuple #[.agg #[.int .i64 R1.tag, .slice xa5 R1.val.length xc5, .slice ka5 R1.kids.len kc5], .bool R1.ok]) (by simp [results, Try.results36, go_sem, y0, y1, y2]) rfl ?_
            all_goals exact fnd_sets E.out HV5.out HK5.out HTI.out B5.out HS.out
        · have tg : (t == g) = false := by simp [ht]
          have hpk2 : Hid (r.pick g = L.pick g) := by show _ = _; rw [← hpk.out, Ns.pick, if_neg ht]
          clear hpk ht ih
          go_wp2_with fail
          go_quiet (fail)
          go_wp2_with fail
          go_roundg r.len
          case measure => simp [Ns.len]
          case rel => exact ⟨r, j + 1, rfl, by omega, by go_num, hpk2.out, by rw [Nat.add_mul, ← Nat.add_assoc]; exact H10.out, q + nq, by simp⟩
end Go.Proofs.Ytljalnfjneeieaa
