/- Layer 2: the walks of objects and kids. -/
import Derived.Test.YtdpiehhblflacaaDoorTlvB
import Derived.Test.YtdpiehhblflacaaDoorTlvC
import Derived.Test.YtdpiehhblflacaaDoorTlvD
import Derived.Test.YtdpiehhblflacaaDoorNodes
namespace Go.Proofs.YtdpiehhblflacaaDoor
open Go.RowKit Go.Deep

theorem object_any (n : Nat) (hk : ListC 88 n true) (ho : ListC 55 n false) : ObjC n := by
  intro B bb bo bc p a e d c st w hB he hB4 hr ha hn hd hc
  cases ht : tagP (rst B a e) with
  | error er => exact object_tag n B bb bo bc p a e d c st w hB he hB4 hr ha hn hd hc er ht
  | ok x =>
    obtain ⟨t, k⟩ := x
    cases hC : tagC t with
    | false => exact object_prim n hk ho B bb bo bc p a e d c st w hB he hB4 hr ha hn hd hc t k ht hC
    | true =>
      cases st with
      | true => exact object_strict n hk ho B bb bo bc p a e d c w hB he hB4 hr ha hn hd hc t k ht hC
      | false => exact object_open n hk ho B bb bo bc p a e d c w hB he hB4 hr ha hn hd hc t k ht hC
def preL (L : Ns) (u : Nat) : Except Int Lst → Except Int Lst
  | .error e => .error e
  | .ok r => .ok ⟨L.app r.list, u + r.used, r.count⟩
theorem preL_nil (r : Except Int Lst) : preL .nil 0 r = r := by
  cases r with
  | error e => rfl
  | ok r => simp [preL, Ns.app]
theorem preL_pre (L M : Ns) (u v : Nat) (r : Except Int Lst) : preL L u (preL M v r) = preL (L.app M) (u + v) r := by
  cases r with
  | error e => rfl
  | ok r => simp [preL, Ns.app_assoc, Nat.add_assoc]
theorem listP_err {st : Bool} {m : Nat} {l : List UInt8} {d c : Nat} {op : Bool} {er : Int} (h : headP l op = none) (ho : objP st m l d c = .error er) : listP st (m + 1) l d c op = .error er := by
  rw [listP, h]; simp only; rw [show objF st (listP st m) l d c = .error er from ho]
theorem listP_step {st : Bool} {m : Nat} {l : List UInt8} {d c : Nat} {op : Bool} {o : Obj1} (h : headP l op = none) (ho : objP st m l d c = .ok o) : listP st (m + 1) l d c op = preL (.cons o.tag o.val o.kids .nil) o.used (listP st m (l.drop o.used) d o.count op) := by
  rw [listP, h]; simp only; rw [show objF st (listP st m) l d c = .ok o from ho]; simp only
  cases listP st m (l.drop o.used) d o.count op <;> rfl
theorem listP_end {st : Bool} {m : Nat} {l : List UInt8} {d c : Nat} {op : Bool} {u : Nat} (h : headP l op = some (.ok u)) : listP st m l d c op = .ok ⟨.nil, u, c⟩ := by
  cases m <;> (rw [listP, h])
theorem listP_bad {st : Bool} {m : Nat} {l : List UInt8} {d c : Nat} {op : Bool} {e : Int} (h : headP l op = some (.error e)) : listP st m l d c op = .error e := by
  cases m <;> (rw [listP, h])
theorem OwnN.lt {w : World} {base : Nat} {o : Value} {L : Ns} (h : OwnN w base o L) {b : Nat} (e : o.ownBlock = some b) : base ≤ b ∧ b < w.heap.size := by
  obtain ⟨xs, h1, _⟩ := h
  exact h1.lt b e
theorem off_new {wr w1 : World} {base : Nat} {o : Value} {L : Ns} (ho : OwnN wr base o L) (hb : base ≤ wr.heap.size) (x : Obj) {b : Nat} (h : New wr w1 b) (hl : b < w1.heap.size) : (w1.alloc x).heap[b]? = w1.heap[b]? ∧ OffN base (w1.alloc x) o b :=
  ⟨Below.heap_alloc _ _ _ hl, by simp; omega, fun e => by have := (ho.lt e).2; omega, by omega⟩
/-- The loops' word. -/
def LSt (w wr : World) (p : Nat) (bv : Value) (st : Bool) (o : Value) (L : Ns) (g c : Nat) : Prop := OwnN wr w.heap.size o L ∧ Rd wr p bv g st c ∧ w.grownBy wr (some p)
theorem LSt.own {w wr : World} {p : Nat} {bv : Value} {st : Bool} {o : Value} {L : Ns} {g c : Nat} (h : LSt w wr p bv st o L g c) : OwnN wr w.heap.size o L := h.1
theorem LSt.rd {w wr : World} {p : Nat} {bv : Value} {st : Bool} {o : Value} {L : Ns} {g c : Nat} (h : LSt w wr p bv st o L g c) : Rd wr p bv g st c := h.2.1
theorem LSt.lt {w wr : World} {p : Nat} {bv : Value} {st : Bool} {o : Value} {L : Ns} {g c : Nat} (h : LSt w wr p bv st o L g c) : w.heap.size ≤ wr.heap.size := h.2.2.size
theorem LSt.bytes {w wr : World} {p : Nat} {bv x : Value} {st : Bool} {o : Value} {L : Ns} {g c : Nat} {l : List UInt8} (h : LSt w wr p bv st o L g c) (hB : BsS w (· ≠ p) x l) : BsS wr (· ≠ p) x l :=
  hB.keep fun b hs hl => ⟨h.2.2.block b hl (by intro e; injection e with e; exact hs (by omega)), hs⟩
theorem LSt.draws {w wr : World} {p : Nat} {bv : Value} {st : Bool} {o : Value} {L : Ns} {g c : Nat} (h : LSt w wr p bv st o L g c) (n : Nat) : LSt w (wr.drewN n) p bv st o L g c :=
  ⟨h.1.kept (row := none) ⟨rfl, rfl, rfl, Nat.le_refl _, fun _ _ _ => rfl⟩ (fun p e => by cases e), h.2.1, only_drewN h.2.2 n⟩
theorem LSt.after {w wr w1 : World} {p : Nat} {bv : Value} {st : Bool} {o : Value} {L : Ns} {g c g' c' : Nat} (h : LSt w wr p bv st o L g c) (hr : Rd w1 p bv g' st c') (hg : wr.grownBy w1 (some p)) (hp : p < w.heap.size) : LSt w w1 p bv st o L g' c' :=
  ⟨h.1.kept hg (fun q e => by injection e with e; omega), hr, only_trans h.2.2 hg⟩
theorem LSt.alloc {w wr : World} {p : Nat} {bv : Value} {st : Bool} {o : Value} {L : Ns} {g c : Nat} (h : LSt w wr p bv st o L g c) (x : Obj) : LSt w (wr.alloc x) p bv st o L g c :=
  ⟨h.1.alloc x, (Below.heap_alloc _ _ _ h.2.1.lt).trans h.2.1, only_alloc h.2.2 x⟩
theorem LSt.push {w wr w2 : World} {p : Nat} {bv : Value} {st : Bool} {o o' : Value} {L L' : Ns} {g c : Nat} (h : LSt w wr p bv st o L g c) (hg : GrewN wr w2 w.heap.size o o' L') (hp : p < w.heap.size) : LSt w w2 p bv st o' L' g c :=
  ⟨hg.1, (hg.2.1.block p hp).trans h.2.1, ⟨hg.2.2.os.trans h.2.2.os, hg.2.2.tape.trans h.2.2.tape, hg.2.2.output.trans h.2.2.output, Nat.le_trans h.2.2.size hg.2.2.size, fun i hi hne => (hg.2.1.block i hi).trans (h.2.2.block i hi hne)⟩⟩
theorem LSt.put {w wr : World} {p : Nat} {bv : Value} {st : Bool} {o : Value} {L : Ns} {g c : Nat} (h : LSt w wr p bv st o L g c) (n : Nat) (z : Int) (hz : z = n) (hp : p < w.heap.size) : LSt w (wr.setCell ⟨p, 1, none⟩ (.int .i64 z)) p bv st o L n c :=
  h.after (h.2.1.at_ n z hz) (only_setCell (World.grownBy.refl wr _) (.inl rfl) _) hp
theorem ListOut.no {w w' : World} {p : Nat} {bv : Value} {a : Nat} {st : Bool} {r : Except Int Lst} {o : Value} {L : Ns} {g c : Nat} {er : Int} (hr : r = .error er) (ne : er ≠ 0) (h : LSt w w' p bv st o L g c) :
    ListOut r w p bv a st (.returned (.tuple #[.slice none 0 0, .int .i64 er])) w' := by subst hr; exact ⟨ne, rfl, ⟨g, c, h.2.1⟩, h.2.2⟩
theorem ListOut.yes {w w' : World} {p : Nat} {bv : Value} {a : Nat} {st : Bool} {r : Except Int Lst} {o : Value} {L : Ns} {g c u : Nat} (hr : r = .ok ⟨L, u, c⟩) (hu : a + u = g) (hl : L.len ≤ 2513169434843) (h : LSt w w' p bv st o L g c) :
    ListOut r w p bv a st (.returned (.tuple #[o, .int .i64 0])) w' := by subst hr hu; exact ⟨_, rfl, h.1.nss hl, h.2.1, h.2.2⟩
theorem preL_nilr (L : Ns) (u v c : Nat) : preL L u (.ok ⟨.nil, v, c⟩) = .ok ⟨L, u + v, c⟩ := by simp [preL, Ns.app_nil]
set_option maxRecDepth 100000 in
set_option maxHeartbeats 8000000 in
theorem objects_of (n : Nat) (hO : ∀ m, m < n → ObjC m) : ListC 55 n false := by
  intro B bb bo bc p a e d c st w hB he hB4 hr ha hn hd hc
  have HB := Lib.hid hB; have HR := Lib.hid hr
  have hp := hr.lt
  clear hB hr
  go_enter Tryd.func55, Tryd.ntmps55
  go_wp2_with fail
  go_loopg [8] n (fun m o wr => ∃ (L : Ns) (u cc : Nat), Hid (listP st n (rst B a e) d c false = preL L u (listP st m (rst B (a + u) e) d cc false)) ∧ LSt w wr p (.slice (some ⟨bb, bo, none⟩) B.length bc) st o L (a + u) cc ∧
    a + u ≤ e ∧ e - (a + u) ≤ m ∧ m ≤ n ∧ cc ≤ 256 ∧ L.len ≤ u)
  case atStart => exact ⟨.nil, 0, c, by rw [preL_nil]; rfl, ⟨OwnN.nil _ _, HR.out, World.grownBy.refl w _⟩, by omega, by omega, Nat.le_refl _, hc, Nat.le_refl _⟩
  case round =>
    obtain ⟨L, u, cc, E, hS, hu1, hu2, hm, hcc, hLl⟩ := hrel
    obtain ⟨oa, oc, rfl⟩ := hS.1.form
    have r0 := hS.2.1.c0; have r1 := hS.2.1.c1
    have S := Lib.hid hS
    clear hS
    by_cases hlt : a + u < e
    · obtain ⟨m, rfl⟩ : ∃ m, gk = m + 1 := ⟨gk - 1, by omega⟩
      have hh : headP (rst B (a + u) e) false = none := by unfold headP; rw [if_neg (by decide), if_neg (by rw [rst_len he]; omega)]
      have HOB := fun (w1 : World) (h1 : BsS w1 (· ≠ p) (.slice (some ⟨bb, bo, none⟩) B.length bc) B) (h2 : Rd w1 p (.slice (some ⟨bb, bo, none⟩) B.length bc) (a + u) st cc) => Lib.hid (hO m (by omega) B bb bo bc p (a + u) e d cc st w1 h1 he hB4 h2 (by omega) (by omega) hd hcc)
      have hso := objF_sound (st := st) (listP_sound st m) (l := rst B (a + u) e) (d := d) (c := cc)
      cases hx : objP st m (rst B (a + u) e) d cc with
      | error er =>
        have E2 : Hid (listP st n (rst B a e) d c false = .error er) := by rw [E.out, listP_err hh hx]; rfl
        have ner := hso.2 er hx
        have n0 : (er != 0) = true := by simp [ner]
        have N0 := Lib.hid ner
        rw [hx] at HOB
        clear hx hso ner hh E
        go_wp2_with (go_at_call 79; refine (HOB _ (S.out.bytes HB.out) S.out.rd).out.mono ?_; intro e1 w1 h1; obtain ⟨_, ⟨t1, rfl⟩, ⟨a1, c1, hr1⟩, hg1⟩ := h1; have S1 := Lib.hid (S.out.after hr1 hg1 hp); clear hr1 hg1)
        go_ret2
        exact ListOut.no E2.out N0.out (S1.out.alloc _)
      | ok x =>
        obtain ⟨x1, x2, x3, x4⟩ := hso.1 x hx
        rw [rst_len he] at x2
        have E2 : Hid (listP st n (rst B a e) d c false = preL (L.app (.cons x.tag x.val x.kids .nil)) (u + x.used) (listP st m (rst B (a + (u + x.used)) e) d x.count false)) := by
          rw [E.out, listP_step hh hx, preL_pre, rst_drop, Nat.add_assoc]; rfl
        rw [hx] at HOB
        clear hx hso hh E x4
        go_wp2_with (first
          | (go_at_call 79; refine (HOB _ (S.out.bytes HB.out) S.out.rd).out.mono ?_; intro e1 w1 h1; obtain ⟨vv, kv, rfl, hv1, hk1, hi1, hr1, hg1⟩ := h1; obtain ⟨va, vc, rfl⟩ := hv1.form2; obtain ⟨ka, kc, rfl⟩ := NsS.form2 hk1; have S1 := Lib.hid (S.out.after hr1 hg1 hp); have Hv1 := Lib.hid hv1; have Hk1 := Lib.hid hk1; have Hi1 := Lib.hid hi1; have z1 := S1.out.lt; clear hv1 hk1 hr1 hg1 hi1)
          | (at_builtin; (with_reducible refine wpList_node rfl (.tmp 27) (.tmp 29) rfl w.heap.size (.slice oa L.len oc) L rfl (S1.out.own.alloc (.cells #[.int .i64 x.tag, .slice va x.val.length vc, .slice ka x.kids.len kc] 53)) x.tag x.val x.kids (.slice va x.val.length vc) (.slice ka x.kids.len kc) _ (w1.heap.size + 1) rfl (by simp) Hi1.out (Hv1.out.keep fun b hs hl => off_new S.out.own S.out.lt _ hs hl) (Hk1.out.keep fun b hs hl => off_new S.out.own S.out.lt _ hs hl) (by omega) (by simp; omega) ?_); intro o2 w2 hg2; have S2 := Lib.hid ((S1.out.alloc (.cells #[.int .i64 x.tag, .slice va x.val.length vc, .slice ka x.kids.len kc] 53)).push hg2 hp); clear hg2))
        go_roundg m
        case measure => omega
        case rel => exact ⟨L.app (.cons x.tag x.val x.kids .nil), u + x.used, x.count, E2.out, by rw [← Nat.add_assoc]; exact S2.out, by omega, by omega, by omega, x3, by rw [Ns.len_snoc]; omega⟩
    · have E2 : Hid (listP st n (rst B a e) d c false = .ok ⟨L, u + 0, cc⟩) := by
        rw [E.out, listP_end (u := 0) (by unfold headP; rw [if_neg (by decide), if_pos (by rw [rst_len he]; omega)]), preL_nilr]; rfl
      clear E
      go_wp2_with fail
      go_ret2
      exact ListOut.yes E2.out (by omega) (by omega) S.out
set_option maxRecDepth 100000 in
set_option maxHeartbeats 8000000 in
theorem kids_of (n : Nat) (hO : ∀ m, m < n → ObjC m) : ListC 88 n true := by
  intro B bb bo bc p a e d c st w hB he hB4 hr ha hn hd hc
  have HB := Lib.hid hB; have HR := Lib.hid hr
  have hp := hr.lt
  clear hB hr
  go_enter Tryd.func88, Tryd.ntmps88
  go_wp2_with fail
  go_loopg [8] n (fun m o wr => ∃ (L : Ns) (u cc : Nat), Hid (listP st n (rst B a e) d c true = preL L u (listP st m (rst B (a + u) e) d cc true)) ∧ LSt w wr p (.slice (some ⟨bb, bo, none⟩) B.length bc) st o L (a + u) cc ∧
    a + u ≤ e ∧ e - (a + u) ≤ m ∧ m ≤ n ∧ cc ≤ 256 ∧ L.len ≤ u)
  case atStart => exact ⟨.nil, 0, c, by rw [preL_nil]; rfl, ⟨OwnN.nil _ _, HR.out, World.grownBy.refl w _⟩, by omega, by omega, Nat.le_refl _, hc, Nat.le_refl _⟩
  case round =>
    obtain ⟨L, u, cc, E, hS, hu1, hu2, hm, hcc, hLl⟩ := hrel
    obtain ⟨oa, oc, rfl⟩ := hS.1.form
    have r0 := hS.2.1.c0; have r1 := hS.2.1.c1
    have S := Lib.hid hS
    clear hS
    have rf := S.out.2.1.fr 1
    by_cases h0 : a + u = e
    · have E2 : Hid (listP st n (rst B a e) d c true = .error 6) := by
        rw [E.out, listP_bad (e := 6) (by unfold headP; rw [if_pos rfl, if_pos (.inl (by rw [rst_len he]; omega))])]; rfl
      have d0 : decide (((a : Int) + u) ≥ e) = true := by simp; omega
      clear E
      go_wp2_with fail
      go_quiet (fail)
      go_wp2_with fail
      go_ret2
      exact ListOut.no E2.out (by decide) (S.out.draws nq)
    · have hl : a + u < B.length := by omega
      have q1 := (S.out.bytes HB.out).cellAt rfl hl
      have g0 : gb (rst B (a + u) e) 0 = gb B (a + u) := gb_rst he (by omega)
      obtain ⟨x, hx⟩ : ∃ x : Nat, x = (gb B (a + u)).toNat := ⟨_, rfl⟩
      have ex : bv (gb B (a + u)) = x := by rw [hx]; rfl
      have ez : gb B (a + u) = 0 ↔ x = 0 := by rw [hx]; exact ⟨fun h => by rw [h]; rfl, fun h => UInt8.toNat_inj.1 h⟩
      change wr.cell? _ = some (.int .u8 (bv (gb B (a + u)))) at q1
      rw [ex] at q1
      have b1 : (0 : Int) ≤ (a : Int) + u := by omega
      have b2 : (a : Int) + u < B.length := by omega
      have d0 : decide (((a : Int) + u) ≥ e) = false := by simp; omega
      clear hx ex
      by_cases hx0 : x = 0
      · have g0' : gb (rst B (a + u) e) 0 = 0 := g0.trans (ez.2 hx0)
        subst hx0
        by_cases h1 : a + u + 1 = e
        · have E2 : Hid (listP st n (rst B a e) d c true = .error 6) := by
            rw [E.out, listP_bad (e := 6) (by unfold headP; rw [if_pos rfl, if_pos (.inr ⟨g0', by rw [rst_len he]; omega⟩)])]; rfl
          have d1 : decide (((a : Int) + u + 1) ≥ e) = true := by simp; omega
          clear E g0 g0' ez h0 h1
          go_wp2_with fail
          go_quiet (fail)
          go_wp2_with fail
          go_ret2
          exact ListOut.no E2.out (by decide) (S.out.draws nq)
        · have hl2 : a + u + 1 < B.length := by omega
          have d1 : decide (((a : Int) + u + 1) ≥ e) = false := by simp; omega
          have q2 := (S.out.bytes HB.out).cellAt rfl hl2
          have g1 : gb (rst B (a + u) e) 1 = gb B (a + u + 1) := gb_rst he (by omega)
          obtain ⟨y, hy⟩ : ∃ y : Nat, y = (gb B (a + u + 1)).toNat := ⟨_, rfl⟩
          have ey : bv (gb B (a + u + 1)) = y := by rw [hy]; rfl
          have ew : gb B (a + u + 1) = 0 ↔ y = 0 := by rw [hy]; exact ⟨fun h => by rw [h]; rfl, fun h => UInt8.toNat_inj.1 h⟩
          change wr.cell? _ = some (.int .u8 (bv (gb B (a + u + 1)))) at q2
          rw [ey] at q2
          have b3 : (0 : Int) ≤ (a : Int) + u + 1 := by omega
          have b4 : (a : Int) + u + 1 < B.length := by omega
          have hn1 : ¬ ((rst B (a + u) e).length = 0 ∨ (gb (rst B (a + u) e) 0 = 0 ∧ (rst B (a + u) e).length = 1)) := by rw [rst_len he]; omega
          clear hy ey
          by_cases hy0 : y = 0
          · have g1' := g1.trans (ew.2 hy0)
            subst hy0
            have E2 : Hid (listP st n (rst B a e) d c true = .ok ⟨L, u + 2, cc⟩) := by
              rw [E.out, listP_end (u := 2) (by unfold headP; rw [if_pos rfl, if_neg hn1, if_pos ⟨g0', g1'⟩]), preL_nilr]; rfl
            clear E g0 g0' g1 g1' ez ew hn1 h0 h1
            go_wp2_with fail
            go_quiet (fail)
            go_wp2_with fail
            go_quiet (fail)
            go_wp2_with fail
            go_ret2
            exact ListOut.yes E2.out (by omega) (by omega) ((S.out.draws _).put (a + (u + 2)) _ (by omega) hp)
          · obtain ⟨m, rfl⟩ : ∃ m, gk = m + 1 := ⟨gk - 1, by omega⟩
            have hh : headP (rst B (a + u) e) true = none := by unfold headP; rw [if_pos rfl, if_neg hn1, if_neg (fun h => hy0 (ew.1 (g1.symm.trans h.2)))]
            have y0 : ((y : Int) == 0) = false := by simp; omega
            clear g0 g0' g1 ez ew hn1 h0 h1 hy0
            have HOB := fun (w1 : World) (h1 : BsS w1 (· ≠ p) (.slice (some ⟨bb, bo, none⟩) B.length bc) B) (h2 : Rd w1 p (.slice (some ⟨bb, bo, none⟩) B.length bc) (a + u) st cc) => Lib.hid (hO m (by omega) B bb bo bc p (a + u) e d cc st w1 h1 he hB4 h2 (by omega) (by omega) hd hcc)
            have hso := objF_sound (st := st) (listP_sound st m) (l := rst B (a + u) e) (d := d) (c := cc)
            cases hx : objP st m (rst B (a + u) e) d cc with
            | error er =>
              have E2 : Hid (listP st n (rst B a e) d c true = .error er) := by rw [E.out, listP_err hh hx]; rfl
              have ner := hso.2 er hx
              have n0 : (er != 0) = true := by simp [ner]
              have N0 := Lib.hid ner
              rw [hx] at HOB
              clear hx hso ner hh E
              go_wp2_with fail
              go_quiet (fail)
              obtain ⟨q1, hq1⟩ : ∃ q, q = nq := ⟨_, rfl⟩
              rw [← hq1]
              clear hq1
              go_wp2_with fail
              go_quiet (fail)
              have S := Lib.hid (S.out.draws (q1 + nq))
              go_wp2_with (go_at_call 79; refine (HOB _ (S.out.bytes HB.out) S.out.rd).out.mono ?_; intro e1 w1 h1; obtain ⟨_, ⟨t1, rfl⟩, ⟨a1, c1, hr1⟩, hg1⟩ := h1; have S1 := Lib.hid (S.out.after hr1 hg1 hp); clear hr1 hg1)
              go_ret2
              exact ListOut.no E2.out N0.out (S1.out.alloc _)
            | ok x =>
              obtain ⟨x1, x2, x3, x4⟩ := hso.1 x hx
              rw [rst_len he] at x2
              have E2 : Hid (listP st n (rst B a e) d c true = preL (L.app (.cons x.tag x.val x.kids .nil)) (u + x.used) (listP st m (rst B (a + (u + x.used)) e) d x.count true)) := by
                rw [E.out, listP_step hh hx, preL_pre, rst_drop, Nat.add_assoc]; rfl
              rw [hx] at HOB
              clear hx hso hh E x4
              go_wp2_with fail
              go_quiet (fail)
              obtain ⟨q1, hq1⟩ : ∃ q, q = nq := ⟨_, rfl⟩
              rw [← hq1]
              clear hq1
              go_wp2_with fail
              go_quiet (fail)
              have S := Lib.hid (S.out.draws (q1 + nq))
              go_wp2_with (first
                | (go_at_call 79; refine (HOB _ (S.out.bytes HB.out) S.out.rd).out.mono ?_; intro e1 w1 h1; obtain ⟨vv, kv, rfl, hv1, hk1, hi1, hr1, hg1⟩ := h1; obtain ⟨va, vc, rfl⟩ := hv1.form2; obtain ⟨ka, kc, rfl⟩ := NsS.form2 hk1; have S1 := Lib.hid (S.out.after hr1 hg1 hp); have Hv1 := Lib.hid hv1; have Hk1 := Lib.hid hk1; have Hi1 := Lib.hid hi1; have z1 := S1.out.lt; clear hv1 hk1 hr1 hg1 hi1)
                | (at_builtin; (with_reducible refine wpList_node rfl (.tmp 82) (.tmp 84) rfl w.heap.size (.slice oa L.len oc) L rfl (S1.out.own.alloc (.cells #[.int .i64 x.tag, .slice va x.val.length vc, .slice ka x.kids.len kc] 53)) x.tag x.val x.kids (.slice va x.val.length vc) (.slice ka x.kids.len kc) _ (w1.heap.size + 1) rfl (by simp) Hi1.out (Hv1.out.keep fun b hs hl => off_new S.out.own S.out.lt _ hs hl) (Hk1.out.keep fun b hs hl => off_new S.out.own S.out.lt _ hs hl) (by omega) (by simp; omega) ?_); intro o2 w2 hg2; have S2 := Lib.hid ((S1.out.alloc (.cells #[.int .i64 x.tag, .slice va x.val.length vc, .slice ka x.kids.len kc] 53)).push hg2 hp); clear hg2))
              go_roundg m
              case measure => omega
              case rel => exact ⟨L.app (.cons x.tag x.val x.kids .nil), u + x.used, x.count, E2.out, by rw [← Nat.add_assoc]; exact S2.out, by omega, by omega, by omega, x3, by rw [Ns.len_snoc]; omega⟩
      · obtain ⟨m, rfl⟩ : ∃ m, gk = m + 1 := ⟨gk - 1, by omega⟩
        have hne : ¬ gb (rst B (a + u) e) 0 = 0 := fun h => hx0 (ez.1 (g0.symm.trans h))
        have hh : headP (rst B (a + u) e) true = none := by
          unfold headP; rw [if_pos rfl, if_neg (fun h => h.elim (fun h => by rw [rst_len he] at h; omega) fun h => hne h.1), if_neg (fun h => hne h.1)]
        have x0 : ((x : Int) == 0) = false := by simp; omega
        clear g0 ez h0 hx0 hne
        have HOB := fun (w1 : World) (h1 : BsS w1 (· ≠ p) (.slice (some ⟨bb, bo, none⟩) B.length bc) B) (h2 : Rd w1 p (.slice (some ⟨bb, bo, none⟩) B.length bc) (a + u) st cc) => Lib.hid (hO m (by omega) B bb bo bc p (a + u) e d cc st w1 h1 he hB4 h2 (by omega) (by omega) hd hcc)
        have hso := objF_sound (st := st) (listP_sound st m) (l := rst B (a + u) e) (d := d) (c := cc)
        cases hx : objP st m (rst B (a + u) e) d cc with
        | error er =>
          have E2 : Hid (listP st n (rst B a e) d c true = .error er) := by rw [E.out, listP_err hh hx]; rfl
          have ner := hso.2 er hx
          have n0 : (er != 0) = true := by simp [ner]
          have N0 := Lib.hid ner
          rw [hx] at HOB
          clear hx hso ner hh E
          go_wp2_with fail
          go_quiet (fail)
          obtain ⟨q1, hq1⟩ : ∃ q, q = nq := ⟨_, rfl⟩
          rw [← hq1]
          clear hq1
          go_wp2_with fail
          go_quiet (fail)
          have S := Lib.hid (S.out.draws (q1 + nq))
          go_wp2_with (go_at_call 79; refine (HOB _ (S.out.bytes HB.out) S.out.rd).out.mono ?_; intro e1 w1 h1; obtain ⟨_, ⟨t1, rfl⟩, ⟨a1, c1, hr1⟩, hg1⟩ := h1; have S1 := Lib.hid (S.out.after hr1 hg1 hp); clear hr1 hg1)
          go_ret2
          exact ListOut.no E2.out N0.out (S1.out.alloc _)
        | ok x =>
          obtain ⟨x1, x2, x3, x4⟩ := hso.1 x hx
          rw [rst_len he] at x2
          have E2 : Hid (listP st n (rst B a e) d c true = preL (L.app (.cons x.tag x.val x.kids .nil)) (u + x.used) (listP st m (rst B (a + (u + x.used)) e) d x.count true)) := by
            rw [E.out, listP_step hh hx, preL_pre, rst_drop, Nat.add_assoc]; rfl
          rw [hx] at HOB
          clear hx hso hh E x4
          go_wp2_with fail
          go_quiet (fail)
          obtain ⟨q1, hq1⟩ : ∃ q, q = nq := ⟨_, rfl⟩
          rw [← hq1]
          clear hq1
          go_wp2_with fail
          go_quiet (fail)
          have S := Lib.hid (S.out.draws (q1 + nq))
          go_wp2_with (first
            | (go_at_call 79; refine (HOB _ (S.out.bytes HB.out) S.out.rd).out.mono ?_; intro e1 w1 h1; obtain ⟨vv, kv, rfl, hv1, hk1, hi1, hr1, hg1⟩ := h1; obtain ⟨va, vc, rfl⟩ := hv1.form2; obtain ⟨ka, kc, rfl⟩ := NsS.form2 hk1; have S1 := Lib.hid (S.out.after hr1 hg1 hp); have Hv1 := Lib.hid hv1; have Hk1 := Lib.hid hk1; have Hi1 := Lib.hid hi1; have z1 := S1.out.lt; clear hv1 hk1 hr1 hg1 hi1)
            | (at_builtin; (with_reducible refine wpList_node rfl (.tmp 82) (.tmp 84) rfl w.heap.size (.slice oa L.len oc) L rfl (S1.out.own.alloc (.cells #[.int .i64 x.tag, .slice va x.val.length vc, .slice ka x.kids.len kc] 53)) x.tag x.val x.kids (.slice va x.val.length vc) (.slice ka x.kids.len kc) _ (w1.heap.size + 1) rfl (by simp) Hi1.out (Hv1.out.keep fun b hs hl => off_new S.out.own S.out.lt _ hs hl) (Hk1.out.keep fun b hs hl => off_new S.out.own S.out.lt _ hs hl) (by omega) (by simp; omega) ?_); intro o2 w2 hg2; have S2 := Lib.hid ((S1.out.alloc (.cells #[.int .i64 x.tag, .slice va x.val.length vc, .slice ka x.kids.len kc] 53)).push hg2 hp); clear hg2))
          go_roundg m
          case measure => omega
          case rel => exact ⟨L.app (.cons x.tag x.val x.kids .nil), u + x.used, x.count, E2.out, by rw [← Nat.add_assoc]; exact S2.out, by omega, by omega, by omega, x3, by rw [Ns.len_snoc]; omega⟩
theorem lists_any (n : Nat) : ListC 88 n true ∧ ListC 55 n false := by
  induction n using Nat.strongRecOn with
  | _ n ih => exact ⟨kids_of n fun m hm => object_any m (ih m hm).1 (ih m hm).2, objects_of n fun m hm => object_any m (ih m hm).1 (ih m hm).2⟩
end Go.Proofs.YtdpiehhblflacaaDoor
/- Layer 2: the walks of Parse, Size and Canonical. -/
namespace Go.Proofs.YtdpiehhblflacaaDoor
open Go.RowKit Go.Deep

def nodesOf : Except Int Ns → Ns
  | .error _ => .nil
  | .ok l => l
/-- Objects in new memory and an error's number. -/
def NodesOut (r : Except Int Ns) (w : World) (e : Ending) (w' : World) : Prop :=
  ∃ v', e = .returned (.tuple #[v', .int .i64 (errOf r)]) ∧ NsS w' (New w w') v' (nodesOf r) ∧ Below w.heap.size w w'
theorem NodesOut.no {w w' : World} {r : Except Int Ns} {e : Int} (hr : r = .error e) (hb : Below w.heap.size w w') : NodesOut r w (.returned (.tuple #[.slice none 0 0, .int .i64 e])) w' := by
  subst hr
  exact ⟨_, rfl, NsS.nil0 _ _, hb⟩
theorem NodesOut.yes {w w' : World} {r : Except Int Ns} {l : Ns} {v : Value} (hr : r = .ok l) (hv : NsS w' (New w w') v l) (hb : Below w.heap.size w w') : NodesOut r w (.returned (.tuple #[v, .int .i64 0])) w' := by
  subst hr
  exact ⟨_, rfl, hv, hb⟩
theorem NodesOut.err {er : Int} {w : World} {e : Ending} {w' : World} (h : NodesOut (.error er) w e w') : ∃ a c, e = .returned (.tuple #[.slice a 0 c, .int .i64 er]) ∧ Below w.heap.size w w' := by
  obtain ⟨v, h1, h2, h3⟩ := h
  obtain ⟨a, c, rfl⟩ := NsS.form2 h2
  exact ⟨a, c, h1, h3⟩
theorem NodesOut.got {l : Ns} {w : World} {e : Ending} {w' : World} (h : NodesOut (.ok l) w e w') : ∃ a c, e = .returned (.tuple #[.slice a l.len c, .int .i64 0]) ∧ NsS w' (New w w') (.slice a l.len c) l ∧ Below w.heap.size w w' := by
  obtain ⟨v, h1, h2, h3⟩ := h
  obtain ⟨a, c, rfl⟩ := NsS.form2 h2
  exact ⟨a, c, h1, h2, h3⟩
theorem BytesOut.err {er : Int} {w : World} {e : Ending} {w' : World} (h : BytesOut (.error er) w e w') : ∃ a c, e = .returned (.tuple #[.slice a 0 c, .int .i64 er]) ∧ Below w.heap.size w w' := by
  obtain ⟨v, h1, h2, h3⟩ := h
  obtain ⟨a, c, rfl⟩ := BsS.form2 h2
  exact ⟨a, c, h1, h3⟩
theorem BytesOut.got {l : List UInt8} {w : World} {e : Ending} {w' : World} (h : BytesOut (.ok l) w e w') : ∃ a c, e = .returned (.tuple #[.slice a l.length c, .int .i64 0]) ∧ BsS w' (New w w') (.slice a l.length c) l ∧ Below w.heap.size w w' := by
  obtain ⟨v, h1, h2, h3⟩ := h
  obtain ⟨a, c, rfl⟩ := BsS.form2 h2
  exact ⟨a, c, h1, h2, h3⟩
set_option maxRecDepth 100000 in
theorem objects_zero (p : Nat) (bv : Value) (st : Bool) (w : World) (hr : Rd w p bv 0 st 0) :
    Calls Tryd.prog 55 #[.pointer (some ⟨p, 0, none⟩), .int .i64 0, .int .i64 1] w fun e w' => e = .returned (.tuple #[.slice none 0 0, .int .i64 0]) ∧ w' = w := by
  have r1 := hr.c1
  clear hr
  go_enter Tryd.func55, Tryd.ntmps55
  go_wp2_with fail
  refine wp_loop_rounds 1 ?_
  rw [rounds_succ]
  go_wp2
  go_ret2
  exact ⟨rfl, rfl⟩
theorem parseP_long {l : List UInt8} {st : Bool} (h : 4096 < l.length) : parseP l st = .error 2 := by unfold parseP; rw [if_pos h]
theorem parseP_err {l : List UInt8} {st : Bool} {er : Int} (h : ¬ 4096 < l.length) (hl : listP st l.length l 1 0 false = .error er) : parseP l st = .error er := by unfold parseP; rw [if_neg h, hl]
theorem parseP_ok {l : List UInt8} {st : Bool} {r : Lst} (h : ¬ 4096 < l.length) (hl : listP st l.length l 1 0 false = .ok r) : parseP l st = .ok r.list := by unfold parseP; rw [if_neg h, hl]
theorem rst_all (B : List UInt8) : rst B 0 B.length = B := by simp [rst]
theorem below_reader {w w' : World} {o : Obj} (hg : (w.alloc o).grownBy w' (some w.heap.size)) : Below w.heap.size w w' := ((Below.refl _ _).alloc (Nat.le_refl _) o).trans (below_of_only hg (by simp) (Nat.le_refl _))
set_option maxRecDepth 100000 in
set_option maxHeartbeats 1000000 in
theorem parse_any (B : List UInt8) (v : Value) (st : Bool) (w : World) (hv : Bs w w.heap.size v B) : Calls Tryd.prog 32 #[v, .bool st] w (NodesOut (parseP B st) w) := by
  have hlen := hv.len
  by_cases h1 : 4096 < B.length
  · obtain ⟨a, c, rfl⟩ := hv.form2
    have E := Lib.hid (parseP_long (st := st) h1)
    clear hv
    go_enter Tryd.func32, Tryd.ntmps32
    go_wp2_with fail
    go_ret2
    exact NodesOut.no E.out (Below.refl _ _)
  · by_cases h0 : B.length = 0
    · have e : B = [] := List.eq_nil_of_length_eq_zero h0
      subst e
      obtain ⟨a, c, rfl⟩ := hv.form2
      have E : Hid (parseP [] st = .ok .nil) := by exact parseP_ok (by simp) (listP_end (u := 0) rfl)
      have hr := objects_zero w.heap.size (.slice a ([] : List UInt8).length c) st (w.alloc (.cells #[.slice a ([] : List UInt8).length c, .int .i64 0, .bool st, .int .i64 0] 79)) (heap_alloc_new _ _)
      have HR := Lib.hid hr
      clear hv hr h0 h1 hlen
      simp only [List.length_nil] at HR ⊢
      go_enter Tryd.func32, Tryd.ntmps32
      go_wp2_with (go_at_call 55; refine HR.out.mono ?_; rintro e w1 ⟨rfl, rfl⟩)
      go_ret2
      exact NodesOut.yes E.out (NsS.nil0 _ _) ((Below.refl _ _).alloc (Nat.le_refl _) _)
    · obtain ⟨a, c, rfl⟩ := hv.form2
      obtain ⟨bb, bo, rfl⟩ : ∃ b off, a = some ⟨b, off, none⟩ := by
        obtain ⟨_, _, hv, _, _, _, h4⟩ := hv
        injection hv with ha _ _
        obtain ⟨b, off, e, _⟩ := h4 (by omega)
        exact ⟨b, off, ha.trans e⟩
      have hc := (lists_any B.length).2 B bb bo c w.heap.size 0 B.length 1 0 st (w.alloc (.cells #[.slice (some ⟨bb, bo, none⟩) B.length c, .int .i64 0, .bool st, .int .i64 0] 79))
        (hv.keep fun b hs hl => ⟨Below.heap_alloc _ _ _ hl, by omega⟩) (Nat.le_refl _) (by omega) (heap_alloc_new _ _) (by omega) (by omega) (by omega) (by omega)
      rw [rst_all] at hc
      have HC := Lib.hid hc
      cases hl : listP st B.length B 1 0 false with
      | error er =>
        have E := Lib.hid (parseP_err h1 hl)
        rw [hl] at HC
        clear hc hl hv
        go_enter Tryd.func32, Tryd.ntmps32
        go_wp2_with (go_at_call 55; refine HC.out.mono ?_; intro e w1 h1; obtain ⟨_, rfl, _, hg⟩ := h1; have Hg := Lib.hid hg; clear hg)
        go_ret2
        exact NodesOut.no E.out (below_reader Hg.out)
      | ok r =>
        have E := Lib.hid (parseP_ok h1 hl)
        rw [hl] at HC
        clear hc hl hv
        go_enter Tryd.func32, Tryd.ntmps32
        go_wp2_with (go_at_call 55; refine HC.out.mono ?_; intro e w1 h1; obtain ⟨v1, rfl, hv1, _, hg⟩ := h1; obtain ⟨va, vc, rfl⟩ := NsS.form2 hv1; have Hv1 := Lib.hid hv1; have Hg := Lib.hid hg; clear hg hv1)
        go_ret2
        exact NodesOut.yes E.out (Hv1.out.keep fun b hs _ => ⟨rfl, by have := hs.1; (try simp at this); omega, hs.2⟩) (below_reader Hg.out)
/-- What is counted and how long the canonical encoding can be. -/
def Sized (L : List UInt8 → Nat → Nat → Bool → Except Int Lst) : Prop := ∀ l d c o r, L l d c o = .ok r → r.count = c + r.list.all ∧ r.list.enc.length ≤ 11 * r.list.all + r.used
theorem enc_len (t : Int) (v : List UInt8) (k r : Ns) : (Ns.cons t v k r).enc.length ≤ 11 + (if tagC t then k.enc else v).length + r.enc.length := by
  rw [enc_cons t v k r _ rfl]
  have h := lenG_len (if tagC t then k.enc else v).length
  have : (tagB t).length ≤ 2 := by unfold tagB; split <;> simp
  simp only [List.length_append]
  omega
theorem objF_sized {st : Bool} {L : List UInt8 → Nat → Nat → Bool → Except Int Lst} (hL : Sized L) (hS : Sound L) {l : List UInt8} {d c : Nat} {o : Obj1} (h : objF st L l d c = .ok o) :
    o.count = c + 1 + o.kids.all ∧ (if tagC o.tag then o.kids.enc else o.val).length ≤ 11 * o.kids.all + o.used := by
  unfold objF at h
  split at h
  · cases h
  · rename_i t k ht
    split at h
    · cases h
    · rename_i n j hs
      split at h
      · cases h
      · split at h
        · cases h
        · split at h
          · cases h
          · split at h
            · split at h
              · cases h
              · rename_i r hr
                injection h with h; subst h
                obtain ⟨g1, g2⟩ := hL _ _ _ _ _ hr
                simp only
                refine ⟨g1, ?_⟩
                split <;> (try simp) <;> omega
            · split at h
              · split at h
                · cases h
                · rename_i r hr
                  injection h with h; subst h
                  obtain ⟨g1, g2⟩ := hL _ _ _ _ _ hr
                  simp only
                  refine ⟨g1, ?_⟩
                  have hu : r.used ≤ n.toNat := by
                    have h9 : ¬ 256 < c + 1 := by assumption
                    have := ((hS _ (d + 1) (c + 1) false (by omega)).1 r hr).1
                    rw [List.length_take] at this
                    omega
                  split <;> (try simp) <;> omega
              · injection h with h; subst h
                rename_i h5
                simp only
                refine ⟨rfl, ?_⟩
                rw [if_neg h5]
                simp
                omega
theorem listP_sized (st : Bool) (n : Nat) : Sized (listP st n) := by
  induction n with
  | zero =>
    intro l d c o r h
    rw [listP] at h
    split at h
    · cases h
    · injection h with h; subst h; exact ⟨rfl, Nat.zero_le _⟩
    · cases h
  | succ n ih =>
    intro l d c o r h
    rw [listP] at h
    split at h
    · cases h
    · injection h with h; subst h; exact ⟨rfl, Nat.zero_le _⟩
    · (try simp only at h)
      cases ho : objF st (listP st n) l d c with
      | error e => rw [ho] at h; cases h
      | ok x =>
        rw [ho] at h
        (try simp only at h)
        obtain ⟨x1, x2⟩ := objF_sized ih (listP_sound st n) ho
        cases hr : listP st n (l.drop x.used) d x.count o with
        | error e => rw [hr] at h; cases h
        | ok q =>
          rw [hr] at h
          injection h with h; subst h
          obtain ⟨y1, y2⟩ := ih _ _ _ _ _ hr
          have := enc_len x.tag x.val x.kids q.list
          refine ⟨by simp only [Ns.all]; omega, by simp only [Ns.all]; omega⟩
theorem parseP_sized {B : List UInt8} {st : Bool} {l : Ns} (h : parseP B st = .ok l) : l.all ≤ 256 ∧ l.enc.length ≤ 10000 := by
  unfold parseP at h
  split at h
  · cases h
  · rename_i h4
    cases hr : listP st B.length B 1 0 false with
    | error e => rw [hr] at h; cases h
    | ok r =>
      rw [hr] at h
      injection h with h; subst h
      obtain ⟨h1, h2⟩ := listP_sized st B.length B 1 0 false r hr
      obtain ⟨h5, h6, _⟩ := (listP_sound st B.length B 1 0 false (by omega)).1 r hr
      omega
theorem parseP_err0 {B : List UInt8} {st : Bool} {er : Int} (h : parseP B st = .error er) : er ≠ 0 := by
  unfold parseP at h
  split at h
  · injection h with h; omega
  · cases hr : listP st B.length B 1 0 false with
    | error e => rw [hr] at h; injection h with h; subst h; exact (listP_sound st B.length B 1 0 false (by omega)).2 _ hr
    | ok r => rw [hr] at h; cases h
/-- What Canonical answers. -/
def canonP (B : List UInt8) : Except Int (List UInt8) :=
  match parseP B false with
  | .error e => .error e
  | .ok l => encP l
end Go.Proofs.YtdpiehhblflacaaDoor
