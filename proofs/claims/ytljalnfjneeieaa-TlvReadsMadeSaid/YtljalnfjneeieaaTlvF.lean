/- Layer 2: the walks of Parse, Size and Canonical. -/
import Derived.Test.YtljalnfjneeieaaTlvE
namespace Go.Proofs.Ytljalnfjneeieaa
open Go.RowKit Go.Deep

def nodesOf : Except Int Ns → Ns
  | .error _ => .nil
  | .ok l => l
/-- Objects in new memory and an error's number. -/
def NodesOut (r : Except Int Ns) (w : World) (e : Ending) (w' : World) : Prop :=
  ∃ v', e = .returned (.tuple #[v', .int .i64 (errOf r)]) ∧ NsS w' (New w w') v' (nodesOf r) ∧ Below w.heap.size w w'
theorem NodesOut.no {w w' : World} {r : Except Int Ns} {e : Int} (hr : r = .error e) (hb : Below w.heap.size w w') : NodesOut r w (.returned (.tuple #[.slice none 0 0, .int .i64 e])) w' := by
  subst hr
  exact ⟨_, rfl, NsS.nil0 _ _, hb⟩
theorem NodesOut.yes {w w' : World} {r : Except Int Ns} {l : Ns} {v : Value} (hr : r = .ok l) (hv : NsS w' (New w w') v l) (hb : Below w.heap.size w w') : NodesOut r w (.returned (.tuple #[v, .int .i64 0])) w' := by
  subst hr
  exact ⟨_, rfl, hv, hb⟩
theorem NodesOut.err {er : Int} {w : World} {e : Ending} {w' : World} (h : NodesOut (.error er) w e w') : ∃ a c, e = .returned (.tuple #[.slice a 0 c, .int .i64 er]) ∧ Below w.heap.size w w' := by
  obtain ⟨v, h1, h2, h3⟩ := h
  obtain ⟨a, c, rfl⟩ := NsS.form2 h2
  exact ⟨a, c, h1, h3⟩
theorem NodesOut.got {l : Ns} {w : World} {e : Ending} {w' : World} (h : NodesOut (.ok l) w e w') : ∃ a c, e = .returned (.tuple #[.slice a l.len c, .int .i64 0]) ∧ NsS w' (New w w') (.slice a l.len c) l ∧ Below w.heap.size w w' := by
  obtain ⟨v, h1, h2, h3⟩ := h
  obtain ⟨a, c, rfl⟩ := NsS.form2 h2
  exact ⟨a, c, h1, h2, h3⟩
theorem BytesOut.err {er : Int} {w : World} {e : Ending} {w' : World} (h : BytesOut (.error er) w e w') : ∃ a c, e = .returned (.tuple #[.slice a 0 c, .int .i64 er]) ∧ Below w.heap.size w w' := by
  obtain ⟨v, h1, h2, h3⟩ := h
  obtain ⟨a, c, rfl⟩ := BsS.form2 h2
  exact ⟨a, c, h1, h3⟩
theorem BytesOut.got {l : List UInt8} {w : World} {e : Ending} {w' : World} (h : BytesOut (.ok l) w e w') : ∃ a c, e = .returned (.tuple #[.slice a l.length c, .int .i64 0]) ∧ BsS w' (New w w') (.slice a l.length c) l ∧ Below w.heap.size w w' := by
  obtain ⟨v, h1, h2, h3⟩ := h
  obtain ⟨a, c, rfl⟩ := BsS.form2 h2
  exact ⟨a, c, h1, h2, h3⟩
set_option maxRecDepth 100000 in
theorem objects_zero (p : Nat) (bv : Value) (st : Bool) (w : World) (hr : Rd w p bv 0 st 0) :
    Calls Try.prog 41 #[.pointer (some ⟨p, 0, none⟩), .int .i64 0, .int .i64 1] w fun e w' => e = .returned (.tuple #[.slice none 0 0, .int .i64 0]) ∧ w' = w := by
  have r1 := hr.c1
  clear hr
  go_enter Try.func41, Try.ntmps41
  go_wp2_with fail
  refine wp_loop_rounds 1 ?_
  rw [rounds_succ]
  go_wp2
  go_ret2
  exact ⟨rfl, rfl⟩
theorem parseP_long {l : List UInt8} {st : Bool} (h : 4096 < l.length) : parseP l st = .error 2 := by unfold parseP; rw [if_pos h]
theorem parseP_err {l : List UInt8} {st : Bool} {er : Int} (h : ¬ 4096 < l.length) (hl : listP st l.length l 1 0 false = .error er) : parseP l st = .error er := by unfold parseP; rw [if_neg h, hl]
theorem parseP_ok {l : List UInt8} {st : Bool} {r : Lst} (h : ¬ 4096 < l.length) (hl : listP st l.length l 1 0 false = .ok r) : parseP l st = .ok r.list := by unfold parseP; rw [if_neg h, hl]
theorem rst_all (B : List UInt8) : rst B 0 B.length = B := by simp [rst]
theorem below_reader {w w' : World} {o : Obj} (hg : (w.alloc o).grownBy w' (some w.heap.size)) : Below w.heap.size w w' := ((Below.refl _ _).alloc (Nat.le_refl _) o).trans (below_of_only hg (by simp) (Nat.le_refl _))
set_option maxRecDepth 100000 in
set_option maxHeartbeats 1000000 in
theorem parse_any (B : List UInt8) (v : Value) (st : Bool) (w : World) (hv : Bs w w.heap.size v B) : Calls Try.prog 22 #[v, .bool st] w (NodesOut (parseP B st) w) := by
  have hlen := hv.len
  by_cases h1 : 4096 < B.length
  · obtain ⟨a, c, rfl⟩ := hv.form2
    have E := Lib.hid (parseP_long (st := st) h1)
    clear hv
    go_enter Try.func22, Try.ntmps22
    go_wp2_with fail
    go_ret2
    exact NodesOut.no E.out (Below.refl _ _)
  · by_cases h0 : B.length = 0
    · have e : B = [] := List.eq_nil_of_length_eq_zero h0
      subst e
      obtain ⟨a, c, rfl⟩ := hv.form2
      have E : Hid (parseP [] st = .ok .nil) := by exact parseP_ok (by simp) (listP_end (u := 0) rfl)
      have hr := objects_zero w.heap.size (.slice a ([] : List UInt8).length c) st (w.alloc (.cells #[.slice a ([] : List UInt8).length c, .int .i64 0, .bool st, .int .i64 0] 62)) (heap_alloc_new _ _)
      have HR := Lib.hid hr
      clear hv hr h0 h1 hlen
      simp only [List.length_nil] at HR ⊢
      go_enter Try.func22, Try.ntmps22
      go_wp2_with (go_at_call 41; refine HR.out.mono ?_; rintro e w1 ⟨rfl, rfl⟩)
      go_ret2
      exact NodesOut.yes E.out (NsS.nil0 _ _) ((Below.refl _ _).alloc (Nat.le_refl _) _)
    · obtain ⟨a, c, rfl⟩ := hv.form2
      obtain ⟨bb, bo, rfl⟩ : ∃ b off, a = some ⟨b, off, none⟩ := by
        obtain ⟨_, _, hv, _, _, _, h4⟩ := hv
        injection hv with ha _ _
        obtain ⟨b, off, e, _⟩ := h4 (by omega)
        exact ⟨b, off, ha.trans e⟩
      have hc := (lists_any B.length).2 B bb bo c w.heap.size 0 B.length 1 0 st (w.alloc (.cells #[.slice (some ⟨bb, bo, none⟩) B.length c, .int .i64 0, .bool st, .int .i64 0] 62))
        (hv.keep fun b hs hl => ⟨Below.heap_alloc _ _ _ hl, by omega⟩) (Nat.le_refl _) (by omega) (heap_alloc_new _ _) (by omega) (by omega) (by omega) (by omega)
      rw [rst_all] at hc
      have HC := Lib.hid hc
      cases hl : listP st B.length B 1 0 false with
      | error er =>
        have E := Lib.hid (parseP_err h1 hl)
        rw [hl] at HC
        clear hc hl hv
        go_enter Try.func22, Try.ntmps22
        go_wp2_with (go_at_call 41; refine HC.out.mono ?_; intro e w1 h1; obtain ⟨_, rfl, _, hg⟩ := h1; have Hg := Lib.hid hg; clear hg)
        go_ret2
        exact NodesOut.no E.out (below_reader Hg.out)
      | ok r =>
        have E := Lib.hid (parseP_ok h1 hl)
        rw [hl] at HC
        clear hc hl hv
        go_enter Try.func22, Try.ntmps22
        go_wp2_with (go_at_call 41; refine HC.out.mono ?_; intro e w1 h1; obtain ⟨v1, rfl, hv1, _, hg⟩ := h1; obtain ⟨va, vc, rfl⟩ := NsS.form2 hv1; have Hv1 := Lib.hid hv1; have Hg := Lib.hid hg; clear hg hv1)
        go_ret2
        exact NodesOut.yes E.out (Hv1.out.keep fun b hs _ => ⟨rfl, by have := hs.1; (try simp at this); omega, hs.2⟩) (below_reader Hg.out)
/-- What is counted and how long the canonical encoding can be. -/
def Sized (L : List UInt8 → Nat → Nat → Bool → Except Int Lst) : Prop := ∀ l d c o r, L l d c o = .ok r → r.count = c + r.list.all ∧ r.list.enc.length ≤ 11 * r.list.all + r.used
theorem enc_len (t : Int) (v : List UInt8) (k r : Ns) : (Ns.cons t v k r).enc.length ≤ 11 + (if tagC t then k.enc else v).length + r.enc.length := by
  rw [enc_cons t v k r _ rfl]
  have h := lenG_len (if tagC t then k.enc else v).length
  have : (tagB t).length ≤ 2 := by unfold tagB; split <;> simp
  simp only [List.length_append]
  omega
theorem objF_sized {st : Bool} {L : List UInt8 → Nat → Nat → Bool → Except Int Lst} (hL : Sized L) (hS : Sound L) {l : List UInt8} {d c : Nat} {o : Obj1} (h : objF st L l d c = .ok o) :
    o.count = c + 1 + o.kids.all ∧ (if tagC o.tag then o.kids.enc else o.val).length ≤ 11 * o.kids.all + o.used := by
  unfold objF at h
  split at h
  · cases h
  · rename_i t k ht
    split at h
    · cases h
    · rename_i n j hs
      split at h
      · cases h
      · split at h
        · cases h
        · split at h
          · cases h
          · split at h
            · split at h
              · cases h
              · rename_i r hr
                injection h with h; subst h
                obtain ⟨g1, g2⟩ := hL _ _ _ _ _ hr
                simp only
                refine ⟨g1, ?_⟩
                split <;> (try simp) <;> omega
            · split at h
              · split at h
                · cases h
                · rename_i r hr
                  injection h with h; subst h
                  obtain ⟨g1, g2⟩ := hL _ _ _ _ _ hr
                  simp only
                  refine ⟨g1, ?_⟩
                  have hu : r.used ≤ n.toNat := by
                    have h9 : ¬ 256 < c + 1 := by assumption
                    have := ((hS _ (d + 1) (c + 1) false (by omega)).1 r hr).1
                    rw [List.length_take] at this
                    omega
                  split <;> (try simp) <;> omega
              · injection h with h; subst h
                rename_i h5
                simp only
                refine ⟨rfl, ?_⟩
                rw [if_neg h5]
                simp
                omega
theorem listP_sized (st : Bool) (n : Nat) : Sized (listP st n) := by
  induction n with
  | zero =>
    intro l d c o r h
    rw [listP] at h
    split at h
    · cases h
    · injection h with h; subst h; exact ⟨rfl, Nat.zero_le _⟩
    · cases h
  | succ n ih =>
    intro l d c o r h
    rw [listP] at h
    split at h
    · cases h
    · injection h with h; subst h; exact ⟨rfl, Nat.zero_le _⟩
    · (try simp only at h)
      cases ho : objF st (listP st n) l d c with
      | error e => rw [ho] at h; cases h
      | ok x =>
        rw [ho] at h
        (try simp only at h)
        obtain ⟨x1, x2⟩ := objF_sized ih (listP_sound st n) ho
        cases hr : listP st n (l.drop x.used) d x.count o with
        | error e => rw [hr] at h; cases h
        | ok q =>
          rw [hr] at h
          injection h with h; subst h
          obtain ⟨y1, y2⟩ := ih _ _ _ _ _ hr
          have := enc_len x.tag x.val x.kids q.list
          refine ⟨by simp only [Ns.all]; omega, by simp only [Ns.all]; omega⟩
theorem parseP_sized {B : List UInt8} {st : Bool} {l : Ns} (h : parseP B st = .ok l) : l.all ≤ 256 ∧ l.enc.length ≤ 10000 := by
  unfold parseP at h
  split at h
  · cases h
  · rename_i h4
    cases hr : listP st B.length B 1 0 false with
    | error e => rw [hr] at h; cases h
    | ok r =>
      rw [hr] at h
      injection h with h; subst h
      obtain ⟨h1, h2⟩ := listP_sized st B.length B 1 0 false r hr
      obtain ⟨h5, h6, _⟩ := (listP_sound st B.length B 1 0 false (by omega)).1 r hr
      omega
theorem parseP_err0 {B : List UInt8} {st : Bool} {er : Int} (h : parseP B st = .error er) : er ≠ 0 := by
  unfold parseP at h
  split at h
  · injection h with h; omega
  · cases hr : listP st B.length B 1 0 false with
    | error e => rw [hr] at h; injection h with h; subst h; exact (listP_sound st B.length B 1 0 false (by omega)).2 _ hr
    | ok r => rw [hr] at h; cases h
/-- What Canonical answers. -/
def canonP (B : List UInt8) : Except Int (List UInt8) :=
  match parseP B false with
  | .error e => .error e
  | .ok l => encP l
set_option maxRecDepth 100000 in
set_option maxHeartbeats 1000000 in
theorem canon_any (B : List UInt8) (v : Value) (w : World) (hv : Bs w w.heap.size v B) : Calls Try.prog 27 #[v] w (BytesOut (canonP B) w) := by
  have P := parse_any B v false w hv
  have HP := Lib.hid P
  obtain ⟨a, c, rfl⟩ := hv.form2
  clear P hv
  cases hp : parseP B false with
  | error er =>
    have E : Hid (canonP B = .error er) := by unfold canonP; rw [hp]; rfl
    have ne := parseP_err0 hp
    have n0 : (er != 0) = true := by simp [ne]
    rw [hp] at HP
    clear hp ne
    go_enter Try.func27, Try.ntmps27
    go_wp2_with (go_at_call 22; refine HP.out.mono ?_; intro e w1 h1; obtain ⟨va, vc, rfl, hb⟩ := NodesOut.err h1; have Hb := Lib.hid hb; clear hb)
    go_ret2
    exact BytesOut.no E.out Hb.out
  | ok l =>
    obtain ⟨l1, l2⟩ := parseP_sized hp
    have E : Hid (canonP B = encP l) := by unfold canonP; rw [hp]; rfl
    rw [hp] at HP
    clear hp
    go_enter Try.func27, Try.ntmps27
    go_wp2_with (first
      | (go_at_call 22; refine HP.out.mono ?_; intro e w1 h1; obtain ⟨va, vc, rfl, hv1, hb⟩ := NodesOut.got h1; have Hv := Lib.hid hv1; have Hb := Lib.hid hb; clear hb hv1)
      | (go_at_call 23; refine (encode_any l _ _ (Hv.out.keep fun b hs _ => ⟨rfl, hs.2⟩) (by omega) (by omega)).mono ?_; intro e w2 h2; obtain ⟨v2, rfl, hv2, hb2⟩ := h2; obtain ⟨ua, uc, rfl⟩ := BsS.form2 hv2; have Hv2 := Lib.hid hv2; have Hb2 := Lib.hid hb2; clear hb2 hv2))
    go_ret2
    rw [E.out]
    exact ⟨_, rfl, Hv2.out.keep fun b hs _ => ⟨rfl, Nat.le_trans Hb.out.size hs.1, hs.2⟩, Hb.out.trans (Hb2.out.mono Hb.out.size)⟩
end Go.Proofs.Ytljalnfjneeieaa
