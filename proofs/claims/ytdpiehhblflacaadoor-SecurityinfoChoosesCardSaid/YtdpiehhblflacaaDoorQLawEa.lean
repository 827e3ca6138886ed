/- Layer 14: Decode of infos, both sides. -/
import Derived.Test.YtdpiehhblflacaaDoorInfoR
import Derived.Test.YtdpiehhblflacaaDoorQInfSame
import Derived.Test.YtdpiehhblflacaaDoorInfR
import Derived.Test.YtdpiehhblflacaaDoorQTlvF
import Derived.Test.YtdpiehhblflacaaDoorQTlvL
import Derived.Test.YtdpiehhblflacaaDoorStrict
import Derived.Test.YtdpiehhblflacaaDoorSetR
import Derived.Test.YtdpiehhblflacaaDoorQSame
namespace Go.Proofs.YtdpiehhblflacaaDoor
open Go.RowKit Go.Deep

def infsOf : Except Int (List Inf) → List Inf
  | .error _ => []
  | .ok l => l
def InfsOut (r : Except Int (List Inf)) (w : World) (e : Ending) (w' : World) : Prop :=
  ∃ v', e = .returned (.tuple #[v', .int .i64 (errOf r)]) ∧ InfS w' (New w w') v' (infsOf r) ∧ Below w.heap.size w w'
theorem InfS.nil (w : World) (S : Nat → Prop) : InfS w S (.slice none 0 0) [] := ⟨none, 0, rfl, Nat.le_refl _, by simp, by simp, fun h => by simp at h⟩
theorem InfsOut.no {w w' : World} {r : Except Int (List Inf)} {e : Int} (hr : r = .error e) (hb : Below w.heap.size w w') : InfsOut r w (.returned (.tuple #[.slice none 0 0, .int .i64 e])) w' := by
  subst hr
  exact ⟨_, rfl, InfS.nil _ _, hb⟩
theorem InfsOut.yes {w w' : World} {r : Except Int (List Inf)} {l : List Inf} {v : Value} (hr : r = .ok l) (hv : InfS w' (New w w') v l) (hb : Below w.heap.size w w') : InfsOut r w (.returned (.tuple #[v, .int .i64 0])) w' := by
  subst hr
  exact ⟨_, rfl, hv, hb⟩
theorem numV_fit {v : List UInt8} (h : v.length ≤ 7) : 0 ≤ numV v ∧ numV v < 72057594037927936 := by
  have key : ∀ k : Nat, k ≤ 7 → (256 : Int) ^ k ≤ 72057594037927936 := by
    intro k hk
    obtain rfl | rfl | rfl | rfl | rfl | rfl | rfl | rfl : k = 0 ∨ k = 1 ∨ k = 2 ∨ k = 3 ∨ k = 4 ∨ k = 5 ∨ k = 6 ∨ k = 7 := by omega
    all_goals decide
  have := numV_in v v.length (Nat.le_refl _)
  rw [List.take_length] at this
  exact ⟨this.1, Int.lt_of_lt_of_le this.2 (key _ h)⟩
theorem fillP_fits : ∀ (fs : List Fld) (K : Ns) (f f' : Nat → Int), fillP fs K f = some f' → (∀ x ∈ fs, x.2.1 ≤ 7) → (∀ j, I64in (f j)) → ∀ j, I64in (f' j) := by
  intro fs
  induction fs with
  | nil => intro K f f' h _ hf; cases K with
    | nil => simp only [fillP] at h; injection h with h; subst h; exact hf
    | cons t v k r => simp only [fillP] at h; cases h
  | cons a fs ih =>
    intro K f f' h hs hf
    obtain ⟨t, s, o⟩ := a
    cases K with
    | nil => simp only [fillP] at h; cases h
    | cons t' v k r =>
      simp only [fillP] at h
      split at h
      · rename_i hc
        refine ih r _ f' h (fun x hx => hs x (by simp [hx])) fun j => ?_
        unfold updF
        split
        · have := numV_fit (v := v) (by rw [hc.2]; exact hs (t, s, o) (by simp))
          exact ⟨by omega, by omega⟩
        · exact hf j
      · cases h
theorem infoP_fits {t : Int} {kids : Ns} {x : Inf} (h : infoP t kids = some x) : x.fits := by
  have key : ∀ (p : Int) (K : Ns), 0 ≤ p → p ≤ 6 → fieldsP p K = some x → x.fits := by
    intro p K h0 h6 h
    rcases Decidable.em (p = 0) with hp | hp
    · subst hp
      cases K with
      | nil => cases h
      | cons a b c d => simp [fieldsP] at h
    · rw [fieldsP_fill p hp] at h
      obtain ⟨f, hf, rfl⟩ := Option.map_eq_some_iff.1 h
      have := fillP_fits _ _ _ _ hf (by unfold formP; intro x hx; (repeat' split at hx) <;> simp at hx <;> (rcases hx with rfl | rfl | rfl) <;> simp) (fun j => by unfold f0P; split <;> exact ⟨by omega, by omega⟩)
      exact ⟨this 0, this 1, this 2, this 3, this 4⟩
  unfold infoP at h
  split at h
  · cases h
  · split at h
    · split at h
      · refine key _ _ ?_ ?_ h <;> (unfold protP; (repeat' split) <;> omega)
      · cases h
    · cases h
theorem infosP_len : ∀ (K : Ns) (l : List Inf), infosP K = some l → l.length = K.len := by
  intro K
  induction K with
  | nil => intro l h; simp only [infosP] at h; injection h with h; subst h; rfl
  | cons t v k r _ ih =>
    intro l h
    simp only [infosP] at h
    split at h
    · cases h
    · split at h
      · cases h
      · rename_i x _ l' hl
        injection h with h
        subst h
        simp only [List.length_cons, Ns.len, ih l' hl]
theorem parse_chk {b : List UInt8} {l : Ns} (h : parseP b true = .ok l) : l.chk 1 = 0 := by
  have := (strict_parse h).1
  unfold encP at this
  split at this
  · cases this
  · rename_i h1
    exact Decidable.not_not.1 h1
theorem nsAt_zero2 {w : World} {S S2 : Prop} {S' : Nat → Prop} {v : Option Addr} {l : Ns} {b off : Nat} (h : 0 < l.len → v = some ⟨b, off, none⟩ ∧ S ∧ S2 ∧ NsAt w S' l b off) : NsAt w S' l b off := by
  cases l with
  | nil => trivial
  | cons t v k r => exact (h (by simp [Ns.len])).2.2.2
theorem len_all (l : Ns) : l.len ≤ l.all := by
  induction l with
  | nil => exact Nat.le_refl _
  | cons t v k r _ ih => simp only [Ns.len, Ns.all]; omega
set_option maxRecDepth 100000 in
set_option maxHeartbeats 4000000 in
theorem idecode_any (B : List UInt8) (v : Value) (w : World) (hT : TabE w) (hv : Bs w w.heap.size v B) : Calls Tryd.prog 10 #[v] w (InfsOut (decI B) w) := by
  have HP := Lib.hid (parse_any B v true w hv)
  have HT := Lib.hid hT
  obtain ⟨a, n, c, rfl⟩ := hv.form
  clear hv hT
  cases hp : parseP B true with
  | error er =>
    have E : Hid (decI B = .error er) := Lib.hid (by unfold decI; rw [hp])
    have her : (er != 0) = true := by have := parseP_err0 hp; simp [this]
    rw [hp] at HP
    clear hp
    go_enter Tryd.func10, Tryd.ntmps10
    go_wp2_with (go_at_call 32; refine HP.out.mono ?_; rintro e w1 h; obtain ⟨a1, c1, rfl, h1⟩ := h.err; have H1 := Lib.hid h1; clear h1 h)
    go_ret2
    exact InfsOut.no E.out H1.out
  | ok l =>
    rw [hp] at HP
    have hchk := parse_chk hp
    have hlen : l.len ≤ 256 := Nat.le_trans (len_all l) (strict_parse hp).2.2.1
    by_cases h1 : l.len = 1
    · obtain ⟨t, vv, K, rfl⟩ : ∃ t vv K, l = .cons t vv K .nil := by
        cases l with
        | nil => simp [Ns.len] at h1
        | cons t vv K r => cases r with
          | nil => exact ⟨_, _, _, rfl⟩
          | cons a b c d => simp only [Ns.len] at h1; omega
      have hKl : K.len ≤ 256 := by have h2 := (strict_parse hp).2.2.1; have := len_all K; simp only [Ns.all] at h2; omega
      by_cases h49 : t = 49
      · subst h49
        have HD : Hid (decI B = match infosP K with | none => .error 1 | some l => if validP l = 0 then .ok l else .error (validP l)) := Lib.hid (by unfold decI; rw [hp]; rfl)
        clear hp hchk hlen h1
        go_enter Tryd.func10, Tryd.ntmps10
        go_upto_region 2 with (go_at_call 32; refine HP.out.mono ?_; rintro e w1 h; obtain ⟨a1, c1, rfl, hns, h1⟩ : ∃ a c, e = .returned (.tuple #[.slice a 1 c, .int .i64 0]) ∧ NsS w1 (New w w1) (.slice a 1 c) (.cons 49 vv K .nil) ∧ Below w.heap.size w w1 := h.got; have HNS := Lib.hid hns; have H1 := Lib.hid h1; clear h1 h hns)
        obtain ⟨_, _, ek, hk1, hk2, _, hk4⟩ := HNS.out
        obtain ⟨lb, lo, ea, hlb, hlbw, hat⟩ := hk4 (by simp [Ns.len])
        injection ek with ek1 ek2 ek3
        subst ek1 ea
        clear hk1 hk2 hk4 ek2 ek3
        obtain ⟨g0, _, ⟨x0, g1, hx0⟩, ⟨ka, kc, g2, gk1, gk2, _, gk4⟩, _⟩ := hat
        obtain ⟨kb, ko, hkk⟩ : ∃ kb ko, 0 < K.len → ka = some ⟨kb, ko, none⟩ ∧ New w w1 kb ∧ kb < w1.heap.size ∧ NsAt w1 (New w w1) K kb ko := by
          rcases Nat.eq_zero_or_pos K.len with h0 | h0
          · exact ⟨0, 0, fun h => by omega⟩
          · obtain ⟨kb, ko, h⟩ := gk4 h0; exact ⟨kb, ko, fun _ => h⟩
        have HKK := Lib.hid hkk
        obtain ⟨KL, hKL⟩ : ∃ KL, K.len = KL := ⟨_, rfl⟩
        rw [hKL] at g2 hKl
        have HKL := Lib.hid hKL
        clear gk1 gk2 gk4 hkk hKL hx0 g1
        go_wp2_with fail
        go_loopg [35, 6] KL (fun m iv ov wr => ∃ (D : List Inf) (K' : Ns), K'.len = m ∧ iv = .int .i64 D.length ∧ D.length + K'.len = KL ∧ Hid (infosP K = match infosP K' with | none => none | some l => some (D ++ l)) ∧ NsAt w1 (New w w1) K' kb (ko + D.length * 3) ∧ OwnI wr w1.heap.size ov D ∧ Hid (∀ x ∈ D, x.fits) ∧ Below w1.heap.size w1 wr)
        case atStart => exact ⟨[], K, HKL.out, rfl, by rw [HKL.out]; simp, Lib.hid (by cases infosP K <;> rfl), by rw [List.length_nil, Nat.zero_mul, Nat.add_zero]; exact nsAt_zero2 HKK.out, OwnI.nil _ _, Lib.hid (by simp), Below.refl _ _⟩
        case round =>
          obtain ⟨D, K', rfl, rfl, hj, hin, hat, how, hfi, hbw⟩ := hrel
          have HOW := Lib.hid how; have HBW := Lib.hid hbw
          have HW := Lib.hid (H1.out.trans (hbw.mono H1.out.size))
          obtain ⟨ao, co, rfl⟩ := how.form
          clear how hbw g0 g2
          cases K' with
          | nil =>
            simp only [Ns.len, Nat.add_zero] at hj
            have hD : infosP K = some D := by rw [hin.out]; simp [infosP]
            have hdi : decI B = if validP D = 0 then .ok D else .error (validP D) := by rw [HD.out, hD]
            have hinf := HOW.out.infs hfi.out (by omega)
            have HV := Lib.hid (svalid_any D _ _ wr hinf)
            have HINF := Lib.hid hinf
            subst hj
            clear hat hin hD hinf
            by_cases hv0 : validP D = 0
            · have hvo := HV.out
              rw [hv0] at hvo
              rw [if_pos hv0] at hdi
              have E := Lib.hid hdi; have HV0 := Lib.hid hvo
              clear hvo hdi HV hv0
              go_wp2_with (go_at_call 13; refine HV0.out.mono ?_; rintro e w5 ⟨rfl, h5⟩; have H5 := Lib.hid h5; clear h5)
              go_ret2
              exact InfsOut.yes E.out (HINF.out.keep fun b hs hl => ⟨H5.out.block b hl, Nat.le_trans H1.out.size hs.1, Nat.lt_of_lt_of_le hl H5.out.size⟩) (HW.out.trans (H5.out.mono HW.out.size))
            · have hvo := HV.out
              rw [if_neg hv0] at hdi
              obtain ⟨er, her⟩ : ∃ er, validP D = er := ⟨_, rfl⟩
              rw [her] at hvo hv0 hdi
              have hv0' : (er != 0) = true := by simp [hv0]
              have E := Lib.hid hdi; have HV0 := Lib.hid hvo
              clear hvo hdi HV hv0 her
              go_wp2_with (go_at_call 13; refine HV0.out.mono ?_; rintro e w5 ⟨rfl, h5⟩; have H5 := Lib.hid h5; clear h5)
              go_ret2
              exact InfsOut.no E.out (HW.out.trans (H5.out.mono HW.out.size))
          | cons t v k r =>
            obtain ⟨g0, _, ⟨x0, g1, hx0⟩, ⟨a', c', g2, gk1, gk2, gk3, gk4⟩, hrest⟩ := hat
            have hns : NsS w1 (New w w1) (.slice a' k.len c') k := ⟨a', c', rfl, gk1, gk2, gk3, gk4⟩
            obtain ⟨xa, xn, xc, rfl⟩ := hx0.form
            obtain ⟨hka, ⟨_, hkb⟩, _⟩ : ka = some ⟨kb, ko, none⟩ ∧ New w w1 kb ∧ _ := HKK.out (by rw [HKL.out]; simp only [Ns.len] at hj; omega)
            subst hka
            simp only [Ns.len] at hj
            have q0 := (HBW.out.cell (p := ⟨kb, ko + D.length * 3, none⟩) hkb).trans g0
            have q1 := (HBW.out.cell (p := ⟨kb, ko + D.length * 3 + 1, none⟩) hkb).trans g1
            have q2 := (HBW.out.cell (p := ⟨kb, ko + D.length * 3 + 2, none⟩) hkb).trans g2
            obtain ⟨kl, hkl⟩ : ∃ kl, k.len = kl := ⟨_, rfl⟩
            rw [hkl] at hns q2
            have hnW : ∀ W, Below wr.heap.size wr W → NsS W (· < W.heap.size) (.slice a' kl c') k := fun W h => hns.keep fun b hs hl => ⟨(h.block b (Nat.lt_of_lt_of_le hl HBW.out.size)).trans (HBW.out.block b hl), Nat.lt_of_lt_of_le hl (Nat.le_trans HBW.out.size h.size)⟩
            obtain ⟨X, ok, hX⟩ : ∃ X ok, infoA t k = (X, ok) := ⟨_, _, rfl⟩
            have HI := Lib.hid (fun W (h : Below wr.heap.size wr W) => iinfo_any t (.slice xa xn xc) _ k W (HT.out.below (HW.out.trans (h.mono HW.out.size)) HT.out.lt) ⟨_, _, _, rfl⟩ (hnW W h))
            rw [hX] at HI
            obtain ⟨p, ve, rr, kk, d⟩ := X
            have HX := Lib.hid hX; have HRE := Lib.hid hrest
            have hlt : D.length < KL := by omega
            have hBX : Below wr.heap.size wr (wr.alloc (.cells #[.int .i64 t, .slice xa xn xc, .slice a' kl c'] 53)) := (Below.refl _ _).alloc (Nat.le_refl _) _
            have HBX := Lib.hid hBX
            clear hx0 g0 g1 g2 gk1 gk2 gk3 gk4 hns hkl hnW hX hrest hBX
            cases ok with
            | false =>
              have hno : infoP t k = none := by
                have := HX.out
                unfold infoA at this
                split at this
                · injection this with _ h; cases h
                · assumption
              have E : Hid (decI B = .error 1) := Lib.hid (by rw [HD.out, hin.out]; simp only [infosP, hno])
              clear hin hfi hno
              go_wp2_with (go_at_call 33; refine (HI.out _ HBX.out).mono ?_; rintro e w5 ⟨rfl, h5⟩; simp only [Inf.cells]; have H5 := Lib.hid h5; clear h5)
              go_ret2
              exact InfsOut.no E.out (((HW.out.trans (HBX.out.mono HW.out.size)).trans (H5.out.mono (by rw [alloc_size]; have := HW.out.size; omega))).alloc (by have h1 := H5.out.size; rw [alloc_size] at h1; have := HW.out.size; omega) _)
            | true =>
              have hyes : infoP t k = some ⟨p, ve, rr, kk, d⟩ := by
                have := HX.out
                unfold infoA at this
                split at this
                · rename_i x hx; injection this with h _; rw [hx, h]
                · injection this with _ h; cases h
              have HIN : Hid (infosP K = match infosP r with | none => none | some l => some ((D ++ [⟨p, ve, rr, kk, d⟩]) ++ l)) := Lib.hid (by rw [hin.out]; simp only [infosP, hyes]; cases infosP r with | none => rfl | some l => simp)
              have HFI : Hid (∀ x ∈ D ++ [(⟨p, ve, rr, kk, d⟩ : Inf)], x.fits) := Lib.hid (by
                intro x hx
                rcases List.mem_append.1 hx with h | h
                · exact hfi.out x h
                · rw [List.mem_singleton.1 h]; exact infoP_fits hyes)
              have hl12 : D.length ≤ 1000000000000 := by omega
              clear hin hfi hyes
              go_wp2_with (first
                | (go_at_call 33; refine (HI.out _ HBX.out).mono ?_; rintro e w5 ⟨rfl, h5⟩; simp only [Inf.cells]; have h6 : Below wr.heap.size wr ((w5.alloc (.cells #[.int .i64 p, .int .i64 ve, .int .i64 rr, .int .i64 kk, .int .i64 d] 45))) := ((HBX.out.trans (h5.mono (by rw [alloc_size]; omega))).alloc (by have := h5.size; rw [alloc_size] at this; omega) _); have H6 := Lib.hid h6; have hsz6 := Nat.le_trans HBW.out.size h6.size; clear h5 h6)
                | (at_builtin; (with_reducible refine wpList_info (w := w5.alloc (.cells #[.int .i64 p, .int .i64 ve, .int .i64 rr, .int .i64 kk, .int .i64 d] 45)) rfl (.tmp 46) (.tmp 48) rfl w1.heap.size (.slice ao D.length co) D ⟨p, ve, rr, kk, d⟩ rfl (HOW.out.later H6.out) 45 (w5.heap.size + 1) rfl (alloc_size _ _).symm hl12 hsz6 ?_); intro o' w' hG; obtain ⟨ao2, co2, ho'⟩ := hG.own.form; rw [List.length_append, List.length_singleton] at ho'; subst ho'; have HOE := Lib.hid hG.own; have HBE := Lib.hid ((HBW.out.trans (H6.out.mono HBW.out.size)).trans hG.below); clear hG))
              go_roundg r.len
              case measure => simp [Ns.len]
              case rel => exact ⟨D ++ [⟨p, ve, rr, kk, d⟩], r, rfl, by rw [List.length_append, List.length_singleton]; go_num, by rw [List.length_append, List.length_singleton]; omega, HIN, by rw [List.length_append, List.length_singleton, show ko + (D.length + 1) * 3 = ko + D.length * 3 + 3 by omega]; exact HRE.out, HOE.out, HFI, HBE.out⟩
      · have E : Hid (decI B = .error 1) := Lib.hid (by unfold decI; rw [hp]; simp only []; rw [if_neg h49])
        have h49' : ((t : Int) != 49) = true := by simp [h49]
        clear hp hchk hlen h1 h49 hKl
        go_enter Tryd.func10, Tryd.ntmps10
        go_wp2_with (go_at_call 32; refine HP.out.mono ?_; rintro e w1 h; obtain ⟨a1, c1, rfl, hns, h1⟩ : ∃ a c, e = .returned (.tuple #[.slice a 1 c, .int .i64 0]) ∧ NsS w1 (New w w1) (.slice a 1 c) (.cons t vv K .nil) ∧ Below w.heap.size w w1 := h.got; obtain ⟨_, _, ek, hk1, hk2, _, hk4⟩ := hns; injection ek with ek1 ek2 ek3; subst ek1 ek3; obtain ⟨lb, lo, rfl, _, _, hat⟩ := hk4 (by simp [Ns.len]); have g0 := hat.1; have H1 := Lib.hid h1; clear h1 h hk1 hk2 hk4 hat ek2)
        go_ret2
        exact InfsOut.no E.out H1.out
    · have E : Hid (decI B = .error 1) := Lib.hid (by
        unfold decI
        rw [hp]
        cases l with
        | nil => rfl
        | cons t vv K r => cases r with
          | nil => exact absurd rfl h1
          | cons a b c d => rfl)
      have h1' : ((l.len : Int) != 1) = true := by rw [bne_iff_ne]; omega
      clear hp hchk h1
      go_enter Tryd.func10, Tryd.ntmps10
      go_wp2_with (go_at_call 32; refine HP.out.mono ?_; rintro e w1 h; obtain ⟨a1, c1, rfl, _, h1⟩ := h.got; have H1 := Lib.hid h1; clear h1 h)
      go_ret2
      exact InfsOut.no E.out H1.out
set_option maxRecDepth 100000 in
set_option maxHeartbeats 4000000 in
theorem ridecode_any (B : List UInt8) (v : Value) (w : World) (hv : Bs w w.heap.size v B) : Calls Tryd.prog 11 #[v] w (InfsOut (decI B) w) := by
  have HP := Lib.hid (rparse_any B v true w hv)
  obtain ⟨a, n, c, rfl⟩ := hv.form
  clear hv
  cases hp : parseP B true with
  | error er =>
    have E : Hid (decI B = .error er) := Lib.hid (by unfold decI; rw [hp])
    have her : (er != 0) = true := by have := parseP_err0 hp; simp [this]
    rw [hp] at HP
    clear hp
    go_enter Tryd.func11, Tryd.ntmps11
    go_wp2_with (go_at_call 34; refine HP.out.mono ?_; rintro e w1 h; obtain ⟨a1, c1, rfl, h1⟩ := h.err; have H1 := Lib.hid h1; clear h1 h)
    go_ret2
    exact InfsOut.no E.out H1.out
  | ok l =>
    rw [hp] at HP
    have hchk := parse_chk hp
    have hlen : l.len ≤ 256 := Nat.le_trans (len_all l) (strict_parse hp).2.2.1
    by_cases h1 : l.len = 1
    · obtain ⟨t, vv, K, rfl⟩ : ∃ t vv K, l = .cons t vv K .nil := by
        cases l with
        | nil => simp [Ns.len] at h1
        | cons t vv K r => cases r with
          | nil => exact ⟨_, _, _, rfl⟩
          | cons a b c d => simp only [Ns.len] at h1; omega
      have hKl : K.len ≤ 256 := by have h2 := (strict_parse hp).2.2.1; have := len_all K; simp only [Ns.all] at h2; omega
      have hvv : t = 49 → vv.length = 0 := fun h => by have := (chk_cons hchk).2.2.1 (by subst h; rfl); rw [this]; rfl
      have hK2 : K.chk 2 = 0 := (chk_cons hchk).2.2.2.2.1
      obtain ⟨o49, ho49⟩ : ∃ o, decide (t = 49 ∧ vv.length = 0) = o := ⟨_, rfl⟩
      obtain ⟨vn, hvn⟩ : ∃ vn, vv.length = vn := ⟨_, rfl⟩
      rw [hvn] at ho49
      have HCS := Lib.hid (fun A A' c m c' w => rcs_any t 49 A A' vn c m c' w o49 ho49)
      by_cases h49 : t = 49
      · subst h49
        have ho : o49 = true := by rw [← ho49, ← hvn]; exact decide_eq_true ⟨rfl, hvv rfl⟩
        subst ho
        have HD : Hid (decI B = match infosP K with | none => .error 1 | some l => if validP l = 0 then .ok l else .error (validP l)) := Lib.hid (by unfold decI; rw [hp]; rfl)
        have HK2 := Lib.hid hK2; have HVN := Lib.hid hvn
        clear hp hchk hlen h1 ho49 hvv hK2 hvn
        go_enter Tryd.func11, Tryd.ntmps11
        go_upto_region 2 with (go_at_call 34; refine HP.out.mono ?_; rintro e w1 h; obtain ⟨a1, c1, rfl, hns, h1⟩ : ∃ a c, e = .returned (.tuple #[.slice a 1 c, .int .i64 0]) ∧ NsS w1 (New w w1) (.slice a 1 c) (.cons 49 vv K .nil) ∧ Below w.heap.size w w1 := h.got; have HNS := Lib.hid hns; have H1 := Lib.hid h1; clear h1 h hns)
        obtain ⟨_, _, ek, hk1, hk2, _, hk4⟩ := HNS.out
        obtain ⟨lb, lo, ea, hlb, hlbw, hat⟩ := hk4 (by simp [Ns.len])
        injection ek with ek1 ek2 ek3
        subst ek1 ea
        clear hk1 hk2 hk4 ek2 ek3
        obtain ⟨g0, _, ⟨x0, g1, hx0⟩, ⟨ka, kc, g2, gk1, gk2, _, gk4⟩, _⟩ := hat
        obtain ⟨kb, ko, hkk⟩ : ∃ kb ko, 0 < K.len → ka = some ⟨kb, ko, none⟩ ∧ New w w1 kb ∧ kb < w1.heap.size ∧ NsAt w1 (New w w1) K kb ko := by
          rcases Nat.eq_zero_or_pos K.len with h0 | h0
          · exact ⟨0, 0, fun h => by omega⟩
          · obtain ⟨kb, ko, h⟩ := gk4 h0; exact ⟨kb, ko, fun _ => h⟩
        have HKK := Lib.hid hkk
        obtain ⟨KL, hKL⟩ : ∃ KL, K.len = KL := ⟨_, rfl⟩
        rw [hKL] at g2 hKl
        have HKL := Lib.hid hKL
        obtain ⟨xa0, xc0, rfl⟩ := hx0.form2
        rw [HVN.out] at g1
        have hLL : ∀ W, Below w1.heap.size w1 W → W.cell? ⟨lb, lo, none⟩ = some (.int .i64 49) ∧ W.cell? ⟨lb, lo + 1, none⟩ = some (.slice xa0 vn xc0) ∧ W.cell? ⟨lb, lo + 2, none⟩ = some (.slice ka KL kc) := fun W h => ⟨(h.cell (p := ⟨lb, _, none⟩) hlbw).trans g0, (h.cell (p := ⟨lb, _, none⟩) hlbw).trans g1, (h.cell (p := ⟨lb, _, none⟩) hlbw).trans g2⟩
        have HLL := Lib.hid hLL
        clear gk1 gk2 gk4 hkk hKL hx0 hLL
        go_wp2_with (go_at_call 35; refine (HCS.out _ _ _ _ _ _).mono ?_; rintro e w2 ⟨rfl, h2⟩; have H2 := Lib.hid h2; clear h2)
        go_loopg [7, 6] KL (fun m iv ov wr => ∃ (D : List Inf) (K' : Ns), K'.len = m ∧ Hid (K'.chk 2 = 0) ∧ iv = .int .i64 D.length ∧ D.length + K'.len = KL ∧ Hid (infosP K = match infosP K' with | none => none | some l => some (D ++ l)) ∧ NsAt w1 (New w w1) K' kb (ko + D.length * 3) ∧ OwnI wr w1.heap.size ov D ∧ Hid (∀ x ∈ D, x.fits) ∧ Below w1.heap.size w1 wr)
        case atStart => exact ⟨[], K, HKL.out, HK2, rfl, by rw [HKL.out]; simp, Lib.hid (by cases infosP K <;> rfl), by rw [List.length_nil, Nat.zero_mul, Nat.add_zero]; exact nsAt_zero2 HKK.out, OwnI.nil _ _, Lib.hid (by simp), H2.out⟩
        case round =>
          obtain ⟨D, K', rfl, hck, rfl, hj, hin, hat, how, hfi, hbw⟩ := hrel
          obtain ⟨l0, l1, l2⟩ := HLL.out wr hbw
          have HOW := Lib.hid how; have HBW := Lib.hid hbw
          have HW := Lib.hid (H1.out.trans (hbw.mono H1.out.size))
          obtain ⟨ao, co, rfl⟩ := how.form
          clear how hbw g0 g1 g2
          cases K' with
          | nil =>
            simp only [Ns.len, Nat.add_zero] at hj
            have hD : infosP K = some D := by rw [hin.out]; simp [infosP]
            have hdi : decI B = if validP D = 0 then .ok D else .error (validP D) := by rw [HD.out, hD]
            have hinf := HOW.out.infs hfi.out (by omega)
            have HV := Lib.hid (rivalid_any D _ _ wr hinf)
            have HINF := Lib.hid hinf
            subst hj
            clear hat hin hD hinf
            by_cases hv0 : validP D = 0
            · have hvo := HV.out
              rw [hv0] at hvo
              rw [if_pos hv0] at hdi
              have E := Lib.hid hdi; have HV0 := Lib.hid hvo
              clear hvo hdi HV hv0
              go_wp2_with (go_at_call 14; refine HV0.out.mono ?_; rintro e w5 ⟨rfl, h5⟩; have H5 := Lib.hid h5; clear h5)
              go_ret2
              exact InfsOut.yes E.out (HINF.out.keep fun b hs hl => ⟨H5.out.block b hl, Nat.le_trans H1.out.size hs.1, Nat.lt_of_lt_of_le hl H5.out.size⟩) (HW.out.trans (H5.out.mono HW.out.size))
            · have hvo := HV.out
              rw [if_neg hv0] at hdi
              obtain ⟨er, her⟩ : ∃ er, validP D = er := ⟨_, rfl⟩
              rw [her] at hvo hv0 hdi
              have hv0' : (er != 0) = true := by simp [hv0]
              have E := Lib.hid hdi; have HV0 := Lib.hid hvo
              clear hvo hdi HV hv0 her
              go_wp2_with (go_at_call 14; refine HV0.out.mono ?_; rintro e w5 ⟨rfl, h5⟩; have H5 := Lib.hid h5; clear h5)
              go_ret2
              exact InfsOut.no E.out (HW.out.trans (H5.out.mono HW.out.size))
          | cons t v k r =>
            obtain ⟨g0, _, ⟨x0, g1, hx0⟩, ⟨a', c', g2, gk1, gk2, gk3, gk4⟩, hrest⟩ := hat
            have hns : NsS w1 (New w w1) (.slice a' k.len c') k := ⟨a', c', rfl, gk1, gk2, gk3, gk4⟩
            obtain ⟨xa, xc, rfl⟩ := hx0.form2
            obtain ⟨ck1, _, ck3, _, ck5, ck6⟩ := chk_cons hck.out
            have h48 : t = 48 → v.length = 0 := fun h => by have := ck3 (by subst h; rfl); rw [this]; rfl
            have hpr := prims_chk k 3 ck5
            obtain ⟨xn, hxn⟩ : ∃ xn, v.length = xn := ⟨_, rfl⟩
            have HCK := Lib.hid ck6
            clear ck1 ck3 ck5 ck6 hck
            obtain ⟨hka, ⟨_, hkb⟩, _⟩ : ka = some ⟨kb, ko, none⟩ ∧ New w w1 kb ∧ _ := HKK.out (by rw [HKL.out]; simp only [Ns.len] at hj; omega)
            subst hka
            simp only [Ns.len] at hj
            have q0 := (HBW.out.cell (p := ⟨kb, ko + D.length * 3, none⟩) hkb).trans g0
            have q1 := (HBW.out.cell (p := ⟨kb, ko + D.length * 3 + 1, none⟩) hkb).trans g1
            have q2 := (HBW.out.cell (p := ⟨kb, ko + D.length * 3 + 2, none⟩) hkb).trans g2
            obtain ⟨kl, hkl⟩ : ∃ kl, k.len = kl := ⟨_, rfl⟩
            rw [hkl] at hns q2
            have hnW : ∀ W, Below wr.heap.size wr W → NsS W (· < W.heap.size) (.slice a' kl c') k := fun W h => hns.keep fun b hs hl => ⟨(h.block b (Nat.lt_of_lt_of_le hl HBW.out.size)).trans (HBW.out.block b hl), Nat.lt_of_lt_of_le hl (Nat.le_trans HBW.out.size h.size)⟩
            obtain ⟨X, ok, hX⟩ : ∃ X ok, infoA t k = (X, ok) := ⟨_, _, rfl⟩
            have HI := Lib.hid (fun W (h : Below wr.heap.size wr W) => rinfo_any t (.slice xa v.length xc) _ v k (New w w1) W (hx0.keep fun b hs hl => ⟨(h.block b (Nat.lt_of_lt_of_le hl HBW.out.size)).trans (HBW.out.block b hl), hs⟩) (hnW W h) h48 hpr)
            rw [hX, hxn] at HI
            rw [hxn] at q1
            obtain ⟨p, ve, rr, kk, d⟩ := X
            have HX := Lib.hid hX; have HRE := Lib.hid hrest
            have hlt : D.length < KL := by omega
            have hBX : Below wr.heap.size wr wr := Below.refl _ _
            have HBX := Lib.hid hBX
            clear hx0 hxn h48 hpr g0 g1 g2 gk1 gk2 gk3 gk4 hns hkl hnW hX hrest hBX
            cases ok with
            | false =>
              have hno : infoP t k = none := by
                have := HX.out
                unfold infoA at this
                split at this
                · injection this with _ h; cases h
                · assumption
              have E : Hid (decI B = .error 1) := Lib.hid (by rw [HD.out, hin.out]; simp only [infosP, hno])
              clear hin hfi hno
              go_wp2_with (go_at_call 36; refine (HI.out _ HBX.out).mono ?_; rintro e w5 ⟨⟨xp, xv, xr, xk, xd⟩, rfl, _, h5⟩; simp only [Inf.cells]; have H5 := Lib.hid h5; clear h5)
              go_ret2
              exact InfsOut.no E.out ((HW.out.trans (H5.out.mono HW.out.size)).alloc (Nat.le_trans HW.out.size H5.out.size) _)
            | true =>
              have hyes : infoP t k = some ⟨p, ve, rr, kk, d⟩ := by
                have := HX.out
                unfold infoA at this
                split at this
                · rename_i x hx; injection this with h _; rw [hx, h]
                · injection this with _ h; cases h
              have HIN : Hid (infosP K = match infosP r with | none => none | some l => some ((D ++ [⟨p, ve, rr, kk, d⟩]) ++ l)) := Lib.hid (by rw [hin.out]; simp only [infosP, hyes]; cases infosP r with | none => rfl | some l => simp)
              have HFI : Hid (∀ x ∈ D ++ [(⟨p, ve, rr, kk, d⟩ : Inf)], x.fits) := Lib.hid (by
                intro x hx
                rcases List.mem_append.1 hx with h | h
                · exact hfi.out x h
                · rw [List.mem_singleton.1 h]; exact infoP_fits hyes)
              have hl12 : D.length ≤ 1000000000000 := by omega
              clear hin hfi hyes
              go_wp2_with (first
                | (go_at_call 36; refine (HI.out _ HBX.out).mono ?_; rintro e w5 ⟨x5, rfl, hx5, h5⟩; obtain rfl := hx5 rfl; simp only [Inf.cells]; have h6 : Below wr.heap.size wr ((w5.alloc (.cells #[.int .i64 p, .int .i64 ve, .int .i64 rr, .int .i64 kk, .int .i64 d] 45))) := (h5.alloc h5.size _); have H6 := Lib.hid h6; have hsz6 := Nat.le_trans HBW.out.size h6.size; clear h5 h6)
                | (at_builtin; (with_reducible refine wpList_info (w := w5.alloc (.cells #[.int .i64 p, .int .i64 ve, .int .i64 rr, .int .i64 kk, .int .i64 d] 45)) rfl (.tmp 51) (.tmp 53) rfl w1.heap.size (.slice ao D.length co) D ⟨p, ve, rr, kk, d⟩ rfl (HOW.out.later H6.out) 45 (w5.heap.size + 1) rfl (alloc_size _ _).symm hl12 hsz6 ?_); intro o' w' hG; obtain ⟨ao2, co2, ho'⟩ := hG.own.form; rw [List.length_append, List.length_singleton] at ho'; subst ho'; have HOE := Lib.hid hG.own; have HBE := Lib.hid ((HBW.out.trans (H6.out.mono HBW.out.size)).trans hG.below); clear hG))
              go_roundg r.len
              case measure => simp [Ns.len]
              case rel => exact ⟨D ++ [⟨p, ve, rr, kk, d⟩], r, rfl, HCK, by rw [List.length_append, List.length_singleton]; go_num, by rw [List.length_append, List.length_singleton]; omega, HIN, by rw [List.length_append, List.length_singleton, show ko + (D.length + 1) * 3 = ko + D.length * 3 + 3 by omega]; exact HRE.out, HOE.out, HFI, HBE.out⟩
      · have E : Hid (decI B = .error 1) := Lib.hid (by unfold decI; rw [hp]; simp only []; rw [if_neg h49])
        have ho : o49 = false := by rw [← ho49]; exact decide_eq_false (fun h => h49 h.1)
        subst ho
        have HVN := Lib.hid hvn
        clear hp hchk hlen h1 h49 hKl hvv hK2 ho49 hvn
        go_enter Tryd.func11, Tryd.ntmps11
        go_wp2_with (first | (go_at_call 35; refine (HCS.out _ _ _ _ _ _).mono ?_; rintro e w2 ⟨rfl, h2⟩; have H2 := Lib.hid h2; clear h2) | (go_at_call 34; refine HP.out.mono ?_; rintro e w1 h; obtain ⟨a1, c1, rfl, hns, h1⟩ : ∃ a c, e = .returned (.tuple #[.slice a 1 c, .int .i64 0]) ∧ NsS w1 (New w w1) (.slice a 1 c) (.cons t vv K .nil) ∧ Below w.heap.size w w1 := h.got; obtain ⟨_, _, ek, hk1, hk2, _, hk4⟩ := hns; injection ek with ek1 ek2 ek3; subst ek1 ek3; obtain ⟨lb, lo, rfl, _, _, hat⟩ := hk4 (by simp [Ns.len]); obtain ⟨g0, _, ⟨x0, g1, hx0⟩, ⟨ka, kc, g2, _⟩, _⟩ := hat; obtain ⟨xa0, xc0, rfl⟩ := hx0.form2; rw [HVN.out] at g1; have H1 := Lib.hid h1; clear h1 h hk1 hk2 hk4 ek2 hx0))
        go_ret2
        exact InfsOut.no E.out (H1.out.trans (H2.out.mono H1.out.size))
    · have E : Hid (decI B = .error 1) := Lib.hid (by
        unfold decI
        rw [hp]
        cases l with
        | nil => rfl
        | cons t vv K r => cases r with
          | nil => exact absurd rfl h1
          | cons a b c d => rfl)
      have h1' : ((l.len : Int) != 1) = true := by rw [bne_iff_ne]; omega
      clear hp hchk h1
      go_enter Tryd.func11, Tryd.ntmps11
      go_wp2_with (go_at_call 34; refine HP.out.mono ?_; rintro e w1 h; obtain ⟨a1, c1, rfl, _, h1⟩ := h.got; have H1 := Lib.hid h1; clear h1 h)
      go_ret2
      exact InfsOut.no E.out H1.out
end Go.Proofs.YtdpiehhblflacaaDoor
/- Layer 14: awake; what Valid, Encode and Decode return for any infos and bytes. -/
namespace Go.Proofs.YtdpiehhblflacaaDoor
open Go.RowKit Go.Deep

theorem InfsOut.got {l : List Inf} {w : World} {e : Ending} {w' : World} (h : InfsOut (.ok l) w e w') : ∃ a c, e = .returned (.tuple #[.slice a l.length c, .int .i64 0]) ∧ InfS w' (New w w') (.slice a l.length c) l ∧ Below w.heap.size w w' := by
  obtain ⟨v, h1, h2, h3⟩ := h
  obtain ⟨a, c, rfl⟩ := h2.form
  exact ⟨a, c, h1, h2, h3⟩
theorem InfS.below {w w' : World} {S : Nat → Prop} {v : Value} {l : List Inf} (h : InfS w S v l) (hb : Below w.heap.size w w') : InfS w' S v l := h.keep fun b hs hl => ⟨hb.block b hl, hs⟩
theorem InfS.draw {w : World} {S : Nat → Prop} {v : Value} {l : List Inf} (h : InfS w S v l) (n : Nat) : InfS (w.drewN n) S v l := h.keep fun _ hs _ => ⟨rfl, hs⟩
theorem dec_self {α : Type} [DecidableEq α] (x : α) : decide (x = x) = true := by simp
def wakeI : Inf := ⟨5, 2, 0, 0, 0⟩
def wakeB : List UInt8 := [49, 16, 48, 14, 6, 9, 4, 0, 127, 0, 7, 2, 2, 2, 1, 2, 1, 2]
theorem wake_enc : encI [wakeI] = .ok wakeB := by
  have h1 : validP [wakeI] = 0 := by decide +kernel
  have h2 : (Ns.cons 49 [] (setK [wakeI]) .nil).enc = wakeB := by decide +kernel
  have h3 : (Ns.cons 49 [] (setK [wakeI]) .nil).chk 1 = 0 := by decide +kernel
  have h4 : (Ns.cons 49 [] (setK [wakeI]) .nil).all = 4 := by decide +kernel
  unfold encI
  rw [if_pos h1]
  unfold encP
  rw [if_neg (by rw [h3]; simp), if_neg (by rw [h4]; omega), if_neg (by rw [h2]; decide), h2]
theorem wake_dec : decI wakeB = .ok [wakeI] := by
  have h : parseP wakeB true = .ok (.cons 49 [] (setK [wakeI]) .nil) := by
    have h2 : (Ns.cons 49 [] (setK [wakeI]) .nil).enc = wakeB := by decide +kernel
    have h3 : (Ns.cons 49 [] (setK [wakeI]) .nil).chk 1 = 0 := by decide +kernel
    refine codes_parseP true _ _ ?_ h3 (by decide +kernel) (by decide)
    rw [← h2]
    exact enc_codes true _ (by rw [h2]; decide)
  have h1 : validP [wakeI] = 0 := by decide +kernel
  unfold decI
  rw [h]
  have h5 : infosP (setK [wakeI]) = some [wakeI] := by
    have : infoP 48 (kidsI wakeI) = some wakeI := by decide +kernel
    show (match infoP 48 (kidsI wakeI) with | none => none | some x => match some [] with | none => none | some l => some (x :: l)) = _
    rw [this]
  simp only [if_true, h5, h1]
set_option maxRecDepth 100000 in
set_option maxHeartbeats 1000000 in
theorem awakeI_any (w : World) (hT : TabE w) : Calls Tryd.prog 12 #[] w fun e w' => e = .returned (.bool true) ∧ Below w.heap.size w w' := by
  have hbn := heap_alloc_new w (.cells #[.int .i64 5, .int .i64 2, .int .i64 0, .int .i64 0, .int .i64 0] 45)
  have hI : InfS (w.alloc (.cells #[.int .i64 5, .int .i64 2, .int .i64 0, .int .i64 0, .int .i64 0] 45)) (fun _ => True) (.slice (some ⟨w.heap.size, 0, none⟩) 1 1) [wakeI] := by
    obtain ⟨c0, c1, c2, c3, c4, _⟩ := five_set hbn
    exact ⟨_, 1, rfl, Nat.le_refl _, by simp, by simp, fun _ => ⟨w.heap.size, 0, rfl, trivial, by simp, ⟨⟨c0, c1, c2, c3, c4⟩, by simp [Inf.fits, I64in, wakeI], trivial⟩⟩⟩
  have hb0 : Below w.heap.size w (w.alloc (.cells #[.int .i64 5, .int .i64 2, .int .i64 0, .int .i64 0, .int .i64 0] 45)) := (Below.refl _ _).alloc (Nat.le_refl _) _
  have HE := Lib.hid (iencode_any [wakeI] _ _ _ (hT.below hb0 hT.lt) hI)
  rw [wake_enc] at HE
  have HB0 := Lib.hid hb0; have HT := Lib.hid hT
  have HD := Lib.hid (fun (w1 : World) (v : Value) (h : Below w.heap.size w w1) (hv : Bs w1 w1.heap.size v wakeB) => idecode_any wakeB v w1 (HT.out.below h HT.out.lt) hv)
  rw [wake_dec] at HD
  clear hbn hI hb0 hT
  go_enter Tryd.func12, Tryd.ntmps12
  go_wp2_with (first
    | (go_at_call 8; refine HE.out.mono ?_; rintro e w1 h; obtain ⟨a1, c1, rfl, hb, h1⟩ : ∃ a c, e = .returned (.tuple #[.slice a 18 c, .int .i64 0]) ∧ BsS w1 (New _ w1) (.slice a 18 c) wakeB ∧ Below _ _ w1 := h.got; have h2 := HB0.out.trans (h1.mono (by simp)); have HB1 := Lib.hid h2; have HBB := Lib.hid hb.bs; clear h h1 h2 hb)
    | (go_at_call 10; refine (HD.out _ _ HB1.out HBB.out).mono ?_; rintro e w2 h; obtain ⟨a2, c2, rfl, hi, h2⟩ : ∃ a c, e = .returned (.tuple #[.slice a 1 c, .int .i64 0]) ∧ InfS w2 (New w1 w2) (.slice a 1 c) [wakeI] ∧ Below w1.heap.size w1 w2 := h.got; obtain ⟨_, _, ee, _, _, _, h4⟩ := hi; obtain ⟨b2, o2, ea, _, _, ⟨⟨_, g1, _⟩, _⟩⟩ := h4 (by simp); injection ee with ee ee2 ee3; clear ee2 ee3; rw [ea] at ee; subst ee; have g2 : w2.cell? ⟨b2, o2 + 1, none⟩ = some (.int .i64 2) := g1; clear g1; have HB2 := Lib.hid (HB1.out.trans (h2.mono HB1.out.size)); clear h h2 h4 ea))
  go_ret
  exact ⟨rfl, HB2.out⟩
set_option maxRecDepth 100000 in
set_option maxHeartbeats 2000000 in
/-- The law's walk, at arguments of any make. -/
theorem exact_any (l : List Inf) (vl : Value) (S : Nat → Prop) (B : List UInt8) (vb : Value) (w : World) (hT : TabE w) (hl : InfS w S vl l) (hb : Bs w w.heap.size vb B) :
    Calls Tryd.prog 3 #[vl, vb] w fun e w' => e = .returned (.bool true) ∧ Below w.heap.size w w' := by
  have HE := Lib.hid (fun w1 (h : Below w.heap.size w w1) => iencode_any l vl _ w1 (hT.below h hT.lt) (hl.keep (S' := fun _ => True) fun b _ hlt => ⟨h.block b hlt, trivial⟩))
  have HRE := Lib.hid (fun w1 (h : Below w.heap.size w w1) => riencode_any l vl _ w1 (hl.keep (S' := fun _ => True) fun b _ hlt => ⟨h.block b hlt, trivial⟩))
  have HD := Lib.hid (fun w1 (h : Below w.heap.size w w1) => idecode_any B vb w1 (hT.below h hT.lt) ((Bs.below hb h).mono h.size))
  have HRD := Lib.hid (fun w1 (h : Below w.heap.size w w1) => ridecode_any B vb w1 ((Bs.below hb h).mono h.size))
  have HA := Lib.hid (fun w1 (h : Below w.heap.size w w1) => awakeI_any w1 (hT.below h hT.lt))
  have HV := Lib.hid (fun w1 (h : Below w.heap.size w w1) => svalid_any l vl _ w1 (hl.keep (S' := fun _ => True) fun b _ hlt => ⟨h.block b hlt, trivial⟩))
  have HRV := Lib.hid (fun w1 (h : Below w.heap.size w w1) => rivalid_any l vl _ w1 (hl.keep (S' := fun _ => True) fun b _ hlt => ⟨h.block b hlt, trivial⟩))
  obtain ⟨la, lc, rfl⟩ := hl.form
  obtain ⟨ba, bc, rfl⟩ := hb.form2
  obtain ⟨ll, hll⟩ : ∃ ll, l.length = ll := ⟨_, rfl⟩
  obtain ⟨bl, hbl⟩ : ∃ bl, B.length = bl := ⟨_, rfl⟩
  rw [hll] at HE HRE HV HRV ⊢
  rw [hbl] at HD HRD ⊢
  obtain ⟨re, hre⟩ : ∃ r, encI l = r := ⟨_, rfl⟩
  obtain ⟨rd, hrd⟩ : ∃ r, decI B = r := ⟨_, rfl⟩
  obtain ⟨rv, hrv⟩ : ∃ r, validP l = r := ⟨_, rfl⟩
  rw [hre] at HE HRE
  rw [hrd] at HD HRD
  rw [hrv] at HV HRV
  obtain ⟨ee, hee⟩ : ∃ x, errOf re = x := ⟨_, rfl⟩
  obtain ⟨ed, hed⟩ : ∃ x, errOf rd = x := ⟨_, rfl⟩
  have HEE := Lib.hid hee; have HED := Lib.hid hed
  have B0 : Hid (Below w.heap.size w w) := Lib.hid (Below.refl _ _)
  clear hT hl hb hll hbl hre hrd hrv hee hed
  go_enter Tryd.func3, Tryd.ntmps3
  go_wp2_with (first
    | (go_at_call 16; refine (isame_any _ _ _ _ _ _ _ D1.out D2.out).mono ?_; rintro e w9 ⟨rfl, nd, hw9⟩; rw [hw9]; clear hw9 w9; rw [dec_self])
    | (go_at_call 15; refine (same_any _ _ _ _ _ _ _ E1.out E2.out).mono ?_; rintro e w8 ⟨rfl, nd, hw8⟩; rw [hw8]; clear hw8 w8; rw [dec_self]; have D1 := Lib.hid (D1.out.draw nd); have D2 := Lib.hid (D2.out.draw nd))
    | (go_at_call 14; refine (HRV.out _ B0.out).mono ?_; rintro e w7 ⟨rfl, h2⟩; have E1 := Lib.hid (E1.out.below h2); have E2 := Lib.hid (E2.out.below h2); have D1 := Lib.hid (D1.out.below h2); have D2 := Lib.hid (D2.out.below h2); have B0 := Lib.hid (B0.out.trans (h2.mono B0.out.size)); clear h2)
    | (go_at_call 13; refine (HV.out _ B0.out).mono ?_; rintro e w6 ⟨rfl, h2⟩; have E1 := Lib.hid (E1.out.below h2); have E2 := Lib.hid (E2.out.below h2); have D1 := Lib.hid (D1.out.below h2); have D2 := Lib.hid (D2.out.below h2); have B0 := Lib.hid (B0.out.trans (h2.mono B0.out.size)); clear h2)
    | (go_at_call 12; refine (HA.out _ B0.out).mono ?_; rintro e w5 ⟨rfl, h2⟩; have E1 := Lib.hid (E1.out.below h2); have E2 := Lib.hid (E2.out.below h2); have D1 := Lib.hid (D1.out.below h2); have D2 := Lib.hid (D2.out.below h2); have B0 := Lib.hid (B0.out.trans (h2.mono B0.out.size)); clear h2)
    | (go_at_call 11; refine (HRD.out _ B0.out).mono ?_; rintro e w4 ⟨v4, rfl, h1, h2⟩; rw [HED.out]; have D2 := Lib.hid h1; have E1 := Lib.hid (E1.out.below h2); have E2 := Lib.hid (E2.out.below h2); have D1 := Lib.hid (D1.out.below h2); have B0 := Lib.hid (B0.out.trans (h2.mono B0.out.size)); clear h1 h2)
    | (go_at_call 10; refine (HD.out _ B0.out).mono ?_; rintro e w3 ⟨v3, rfl, h1, h2⟩; rw [HED.out]; have D1 := Lib.hid h1; have E1 := Lib.hid (E1.out.below h2); have E2 := Lib.hid (E2.out.below h2); have B0 := Lib.hid (B0.out.trans (h2.mono B0.out.size)); clear h1 h2)
    | (go_at_call 9; refine (HRE.out _ B0.out).mono ?_; rintro e w2 ⟨v2, rfl, h1, h2⟩; rw [HEE.out]; have E2 := Lib.hid h1; have E1 := Lib.hid (E1.out.below h2); have B0 := Lib.hid (B0.out.trans (h2.mono B0.out.size)); clear h1 h2)
    | (go_at_call 8; refine (HE.out _ B0.out).mono ?_; rintro e w1 ⟨v1, rfl, h1, h2⟩; rw [HEE.out]; have E1 := Lib.hid h1; have B0 := Lib.hid h2; clear h1 h2))
  go_ret
  exact ⟨rfl, by first | exact B0.out | exact below_drewN B0.out _ | exact below_drewN (below_drewN B0.out _) _⟩
/-- As the frame takes it. -/
theorem securityinfoExact_law (l : List Inf) {vl : Value} (vb : Value) (B : List UInt8) (_ : B.length ≤ 140737488351232) (w : World) (hT : TabE w) (hl : InfS w (· < w.heap.size) vl l) (hb : Bs w w.heap.size vb B) :
    Calls Tryd.prog 3 #[vl, vb] w fun e w' => e = .returned (.bool true) ∧ Below w.heap.size w w' := exact_any l vl _ B vb w hT hl hb
end Go.Proofs.YtdpiehhblflacaaDoor
