/- Layer 2: the walk of Find. -/
import Derived.Test.YtljalnfjneeieaaFind
import Derived.Test.YtljalnfjneeieaaClone2
namespace Go.Proofs.Ytljalnfjneeieaa
open Go.RowKit Go.Deep

theorem pick_all {g : Int} {v : List UInt8} {k : Ns} (L : Ns) (h : L.pick g = some (v, k)) : k.all ≤ L.all := by
  induction L with
  | nil => cases h
  | cons t v' k' r _ ih =>
    rw [Ns.pick] at h
    simp only [Ns.all]
    split at h
    · injection h with h; injection h with _ e; subst e; omega
    · have := ih h; omega
theorem pick_len {g : Int} {v : List UInt8} {k : Ns} (L : Ns) (h : L.pick g = some (v, k)) : 0 < L.len := by
  cases L with
  | nil => cases h
  | cons t v' k' r => simp [Ns.len]
/-- Inside Find: the result's block, the block of what was found, and what is left of both. -/
structure FSt (w wi : World) (S : Nat → Prop) (f : Fnd) (vv kv : Value) : Prop where
  fd : wi.heap[w.heap.size + 1]? = some (.cells #[.int .i64 f.tag, vv, kv] 42 (0, 0))
  rs : wi.heap[w.heap.size]? = some (.cells #[.int .i64 0, .slice none 0 0, .slice none 0 0] 42 (0, 0))
  bs : BsS w S vv f.val
  ks : NsS w S kv f.kids
  it : I64in f.tag
  bel : Below w.heap.size w wi
/-- Behind the stores into the result's block. -/
theorem fnd_sets' {w wr w5 : World} {r r1 : Fnd} {vv kv x y z : Value} (e : r = r1) (hv : BsS w5 (New wr w5) vv r1.val) (hk : NsS w5 (New wr w5) kv r1.kids) (ht : I64in r1.tag) (hb : Below w.heap.size w w5) (hz : w.heap.size + 2 ≤ wr.heap.size) :
    FndOut r (fun b => b < w.heap.size ∨ w.heap.size + 2 ≤ b) w (.returned (.tuple #[.agg #[.int .i64 r1.tag, vv, kv], .bool r1.ok])) (((w5.setCell ⟨w.heap.size, 0, none⟩ x).setCell ⟨w.heap.size, 1, none⟩ y).setCell ⟨w.heap.size, 2, none⟩ z) := by
  subst e
  have hk' : ∀ b, New wr w5 b → b < w5.heap.size → (((w5.setCell ⟨w.heap.size, 0, none⟩ x).setCell ⟨w.heap.size, 1, none⟩ y).setCell ⟨w.heap.size, 2, none⟩ z).heap[b]? = w5.heap[b]? ∧ (b < w.heap.size ∨ w.heap.size + 2 ≤ b) := fun b hs _ => by
    have := hs.1
    exact ⟨by rw [Below.heap_setCell _ _ _ _ (by show b ≠ w.heap.size; omega), Below.heap_setCell _ _ _ _ (by show b ≠ w.heap.size; omega), Below.heap_setCell _ _ _ _ (by show b ≠ w.heap.size; omega)], .inr (by omega)⟩
  exact ⟨_, _, rfl, hv.keep hk', hk.keep hk', ht, ((hb.setCell (p := ⟨w.heap.size, 0, none⟩) (Nat.le_refl _) _).setCell (p := ⟨w.heap.size, 1, none⟩) (Nat.le_refl _) _).setCell (p := ⟨w.heap.size, 2, none⟩) (Nat.le_refl _) _⟩
set_option maxRecDepth 100000 in
set_option maxHeartbeats 4000000 in
theorem find_any (ps : List Int) (L : Ns) (v vp : Value) (S : Nat → Prop) (w : World) (hS : ∀ b, S b → b < w.heap.size) (hv : NsS w S v L) (hp : IntL w S vp ps) (ha : L.all ≤ 10000000) :
    Calls Try.prog 35 #[v, vp] w (FndOut (findR ps L) (fun b => b < w.heap.size ∨ w.heap.size + 2 ≤ b) w) := by
  obtain ⟨a, cap, rfl⟩ := hv.form2
  have HPI := Lib.hid hp
  obtain ⟨pa, pc, rfl, pl, pc9, pl9, pz, pcell⟩ := hp
  obtain ⟨pb, po, Hpc⟩ : ∃ b o, Hid (0 < ps.length → pa = some ⟨b, o, none⟩ ∧ b < w.heap.size ∧ ∀ j, j < ps.length → w.cell? ⟨b, o + j, none⟩ = some (.int .i64 (ps.getD j 0))) := by
    rcases Nat.eq_zero_or_pos ps.length with h0 | h0
    · exact ⟨0, 0, fun h => by omega⟩
    · obtain ⟨b, o, h1, h2, h3, h4⟩ := pcell h0
      exact ⟨b, o, fun _ => ⟨h1, h3, h4⟩⟩
  have HV := Lib.hid hv; have HS := Lib.hid hS; have PZ := Lib.hid pz
  clear hv hS pz pcell
  go_enter Try.func35, Try.ntmps35
  go_wp2_with fail
  obtain ⟨w0, hw0⟩ : ∃ w0, w0 = (w.alloc (.cells #[.int .i64 0, .slice none 0 0, .slice none 0 0] 42)).alloc (.cells #[.int .i64 0, .slice none 0 0, .slice none 0 0] 42) := ⟨_, rfl⟩
  rw [← hw0]
  have hF : FSt w w0 S .no (.slice none 0 0) (.slice none 0 0) := by
    rw [hw0]
    refine ⟨?_, (Below.heap_alloc _ _ _ (by simp)).trans (heap_alloc_new _ _), BsS.nil0 _ _, NsS.nil0 _ _, ⟨by decide, by decide⟩, ((Below.refl _ _).alloc (Nat.le_refl _) _).alloc (by simp) _⟩
    have h := heap_alloc_new (w.alloc (.cells #[.int .i64 0, .slice none 0 0, .slice none 0 0] 42)) (.cells #[.int .i64 0, .slice none 0 0, .slice none 0 0] 42)
    rw [show (w.alloc (.cells #[.int .i64 0, .slice none 0 0, .slice none 0 0] 42)).heap.size = w.heap.size + 1 by simp] at h
    exact h
  have HF := Lib.hid hF
  clear hw0 hF
  go_loopg [0, 12] ps.length (fun m cv i wr => ∃ (p : List Int) (j : Nat) (f : Fnd) (cur : Ns) (ca fxa fka : Option Addr) (cc fxc fkc : Nat), p.length = m ∧ j + p.length = ps.length ∧ i = .int .i64 j ∧ Hid (p = ps.drop j) ∧ cv = .slice ca cur.len cc ∧ Hid (NsS w S (.slice ca cur.len cc) cur) ∧
    Hid (FSt w wr S f (.slice fxa f.val.length fxc) (.slice fka f.kids.len fkc)) ∧ Hid (findR ps L = if p = [] then f else findR p cur) ∧ Hid (0 < j → f.ok = true) ∧ f.kids.all ≤ 10000000 ∧ cur.all ≤ 10000000)
  case atStart =>
    exact ⟨ps, 0, .no, L, a, none, none, cap, 0, 0, rfl, by omega, rfl, by simp [Hid], rfl, HV.out, HF.out, by show _ = _; cases ps with | nil => rfl | cons g p => simp, fun h => by omega, by simp [Fnd.no, Ns.all], ha⟩
  case round =>
    obtain ⟨p, j, f, cur, ca, fxa, fka, cc, fxc, fkc, rfl, hj, rfl, hpd, rfl, hcur, hFS, hfind, hok, hfa, hca⟩ := hrel
    obtain ⟨f0, f1, f2, ff⟩ := three hFS.out.fd
    obtain ⟨r0, r1, r2, rf⟩ := three hFS.out.rs
    have ff0 := ff 0; have ff1 := ff 1; have ff2 := ff 2
    have rf0 := rf 0; have rf1 := rf 1; have rf2 := rf 2
    have hfl := (Array.getElem?_eq_some_iff.1 hFS.out.fd).1
    have hz := hFS.out.bel.size
    clear ff rf
    cases p with
    | nil =>
      simp only [List.length_nil, Nat.add_zero] at hj
      have HC := Lib.hid (fun (W1 : World) (h : Below w.heap.size w W1) => nclone_any f.kids.all f.tag f.val f.kids (.slice fxa f.val.length fxc) (.slice fka f.kids.len fkc) S W1 (Nat.le_refl _) hfa (fun b hs => Nat.lt_of_lt_of_le (HS.out b hs) h.size) hFS.out.it (hFS.out.bs.keep fun b hs _ => ⟨h.block b (HS.out b hs), hs⟩) (hFS.out.ks.keep fun b hs _ => ⟨h.block b (HS.out b hs), hs⟩))
      have E : Hid (findR ps L = f) := by show _ = _; rw [hfind.out]; rfl
      have hOk : Hid (f.ok = decide ((ps.length : Int) > 0)) := by
        show _ = _
        by_cases h0 : ps = []
        · have e : f = .no := by rw [← E.out, h0]; rfl
          rw [e, h0]; rfl
        · have : 0 < ps.length := List.length_pos_iff.2 h0
          rw [hok.out (by omega)]
          exact (decide_eq_true (by omega)).symm
      clear hfind hok hcur hpd
      go_wp2_with (go_at_call 54; refine (HC.out _ hFS.out.bel).mono ?_; rintro e w5 ⟨vv, kk, rfl, hvv, hkk, hb5⟩; obtain ⟨va, vc, rfl⟩ := hvv.form2; obtain ⟨ka, kc, rfl⟩ := hkk.form2; have hr5 := (hb5.block w.heap.size (by omega)).trans hFS.out.rs; have HR5 := Lib.hid hr5; obtain ⟨s0, s1, s2, sf⟩ := three hr5; have sf0 := sf 0; have sf1 := sf 1; have sf2 := sf 2; have V5 := Lib.hid hvv; have K5 := Lib.hid hkk; have B5 := Lib.hid hb5; clear hvv hkk hb5 hr5 sf)
      obtain ⟨y0, y1, y2, _⟩ := three (three_set2 (u := .slice ka f.kids.len kc) (three_set1 (u := .slice va f.val.length vc) (three_set0 (u := .int .i64 f.tag) HR5.out)))
      refine bodyPost_ret (v := .tuple #[.agg #[.int .i64 f.tag, .slice va f.val.length vc, .slice ka f.kids.len kc], .bool (decide (0 < ps.length))]) (by simp [results, Try.results35, go_sem, y0, y1, y2]) rfl ?_
      have e1 : decide (0 < ps.length) = f.ok := by rw [hOk.out]; simp
      rw [e1]
      exact fnd_sets' E.out V5.out K5.out hFS.out.it (hFS.out.bel.trans (B5.out.mono hz)) (by have := hFS.out.bel.size; omega)
    | cons g p =>
      simp only [List.length_cons] at hj
      have hjl : (j : Int) < ps.length := by omega
      obtain ⟨rfl, hpbl, hpcell⟩ := Hpc.out (by omega)
      have hg : ps.getD j 0 = g := by
        have h := congrArg (fun l : List Int => l.getD 0 0) hpd.out
        simp only [List.getD_cons_zero] at h
        rw [h]
        simp [List.getD, List.getElem?_drop]
      have hpd2 : Hid (p = ps.drop (j + 1)) := by
        show p = _
        have h := congrArg List.tail hpd.out
        simp only [List.tail_cons] at h
        rw [h, List.tail_drop]
      have hc0 := hpcell j (by omega)
      rw [hg] at hc0
      have hc1 := (hFS.out.bel.cell (p := ⟨pb, po + j, none⟩) hpbl).trans hc0
      have hgi : I64in g := PZ.out g (by
        have hjn : j < ps.length := by omega
        have e : ps.getD j 0 = ps[j] := by simp [List.getD, hjn]
        rw [← hg, e]; exact List.getElem_mem _)
      obtain ⟨wa, hwa⟩ : ∃ wa, wa = wr.alloc (.cells #[.int .i64 g] 3) := ⟨_, rfl⟩
      have hBa : Below wr.heap.size wr wa := by rw [hwa]; exact (Below.refl _ _).alloc (Nat.le_refl _) _
      have hta : wa.heap[wr.heap.size]? = some (.cells #[.int .i64 g] 3 (0, 0)) := by rw [hwa]; exact heap_alloc_new _ _
      have HI := Lib.hid (index_any cur (.slice ca cur.len cc) S g wr.heap.size wa (hcur.out.keep fun b hs hl => ⟨(hBa.block b (Nat.lt_of_lt_of_le (HS.out b hs) hz)).trans (hFS.out.bel.block b (HS.out b hs)), hs⟩) (cell_of_one hta) (Array.getElem?_eq_some_iff.1 hta).1)
      have BA := Lib.hid hBa; have WA := Lib.hid hwa
      have hzA := hBa.size
      clear hpcell hc0 hta hBa hwa hpd hg
      cases hpk : cur.pick g with
      | none =>
        have hix := idx_none cur g 0 hpk
        rw [hix] at HI
        have E : Hid (findR ps L = .no) := by show _ = _; rw [hfind.out, if_neg (by simp), findR, hpk]
        clear hix hfind hok hcur hpd2
        go_wp2_with (rw [← WA.out]; go_at_call 52; refine HI.out.mono ?_; rintro e w5 ⟨rfl, hb5⟩; have hr5 := (hb5.block w.heap.size (by omega)).trans ((BA.out.block w.heap.size (by omega)).trans hFS.out.rs); have HR5 := Lib.hid hr5; obtain ⟨s0, s1, s2, sf⟩ := three hr5; have sf0 := sf 0; have sf1 := sf 1; have sf2 := sf 2; have B5 := Lib.hid hb5; clear hb5 hr5 sf)
        obtain ⟨y0, y1, y2, _⟩ := three (three_set2 (u := .slice none 0 0) (three_set1 (u := .slice none 0 0) (three_set0 (u := .int .i64 0) HR5.out)))
        refine bodyPost_ret (v := .tuple #[.agg #[.int .i64 0, .slice none 0 0, .slice none 0 0], .bool false]) (by simp [results, Try.results35, go_sem, y0, y1, y2]) rfl ?_
        exact fnd_sets' (wr := wr) (r1 := .no) E.out (BsS.nil0 _ _) (NsS.nil0 _ _) ⟨by decide, by decide⟩ ((hFS.out.bel.trans (BA.out.mono hz)).trans (B5.out.mono (by omega))) (by omega)
      | some vk =>
        obtain ⟨v, k⟩ := vk
        have hcl := pick_len cur hpk
        have hka := pick_all cur hpk
        obtain ⟨_, _, hce, _, _, _, hcc⟩ := hcur.out
        injection hce with hce1 _ hce3
        subst hce1 hce3
        obtain ⟨b, off, rfl, hbS, hbl, hat⟩ := hcc hcl
        obtain ⟨i, hix, _, hil, d0, hgi2, ⟨x, d1, hx⟩, ⟨y, d2, hy⟩⟩ := idx_some cur b off 0 hat hpk
        rw [Nat.sub_zero] at d0 d1 d2
        rw [hix] at HI
        obtain ⟨xa, xc, rfl⟩ := hx.form2
        obtain ⟨ka, kc, rfl⟩ := hy.form2
        have hil2 : (i : Int) < cur.len := by omega
        have hbw := HS.out b hbS
        have E : Hid (findR ps L = if p = [] then ⟨true, g, v, k⟩ else findR p k) := by show _ = _; rw [hfind.out, if_neg (by simp), findR, hpk]
        have D0 := Lib.hid d0; have D1 := Lib.hid d1; have D2 := Lib.hid d2; have HX := Lib.hid hx; have HY := Lib.hid hy
        clear hix hfind hok hcc hat d0 d1 d2 hx hy
        go_wp2_with (rw [← WA.out]; go_at_call 52; refine HI.out.mono ?_; rintro e w5 ⟨rfl, hb5⟩; have B5 : Hid (Below w.heap.size w w5) := (hFS.out.bel.trans (BA.out.mono hz)).trans (hb5.mono (by omega)); have hf5 := (hb5.block (w.heap.size + 1) (by omega)).trans ((BA.out.block (w.heap.size + 1) hfl).trans hFS.out.fd); have HF5 := Lib.hid hf5; obtain ⟨s0, s1, s2, sf⟩ := three hf5; have sf0 := sf 0; have sf1 := sf 1; have sf2 := sf 2; have HR5 := Lib.hid ((hb5.block w.heap.size (by omega)).trans ((BA.out.block w.heap.size (by omega)).trans hFS.out.rs)); have g0 := (B5.out.cell (p := ⟨b, off + i * 3, none⟩) hbw).trans D0.out; have g1 := (B5.out.cell (p := ⟨b, off + i * 3 + 1, none⟩) hbw).trans D1.out; have g2 := (B5.out.cell (p := ⟨b, off + i * 3 + 2, none⟩) hbw).trans D2.out; clear hb5 hf5 sf)
        go_roundg p.length
        case measure => simp
        case rel =>
          refine ⟨p, j + 1, ⟨true, g, v, k⟩, k, ka, xa, ka, kc, xc, kc, rfl, by omega, by go_num, hpd2.out, rfl, HY.out, ?_, E.out, fun _ => rfl, (by show k.all ≤ 10000000; omega), by omega⟩
          refine ⟨three_set2 (three_set1 (three_set0 HF5.out)), ?_, HX.out, HY.out, hgi2, ((B5.out.setCell (p := ⟨w.heap.size + 1, 0, none⟩) (Nat.le_succ _) _).setCell (p := ⟨w.heap.size + 1, 1, none⟩) (Nat.le_succ _) _).setCell (p := ⟨w.heap.size + 1, 2, none⟩) (Nat.le_succ _) _⟩
          rw [Below.heap_setCell _ _ _ _ (by show _ ≠ w.heap.size + 1; omega), Below.heap_setCell _ _ _ _ (by show _ ≠ w.heap.size + 1; omega), Below.heap_setCell _ _ _ _ (by show _ ≠ w.heap.size + 1; omega)]
          exact HR5.out
end Go.Proofs.Ytljalnfjneeieaa
