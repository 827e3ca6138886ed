/- Layer 14: the reference's Set and Encode of infos. -/
import Derived.Test.YtdpiehhblflacaaDoorQObjR
import Derived.Test.YtdpiehhblflacaaDoorInfR
import Derived.Test.YtdpiehhblflacaaDoorTlvP
namespace Go.Proofs.YtdpiehhblflacaaDoor
open Go.RowKit Go.Deep

def SetEnd (l : List Inf) (w : World) (e : Ending) (w' : World) : Prop :=
  ∃ kv, e = .returned (.agg #[.int .i64 49, .slice none 0 0, kv]) ∧ NsS w' (New w w') kv (setK l) ∧ Below w.heap.size w w'
theorem each_obj {wc w5 : World} {B : Nat} {o : Value} {L M : Ns} {kv : Value} {t : Int} (h : OwnX wc B (fun _ => False) o L) (hB : B ≤ wc.heap.size) (hv : NsS w5 (New wc w5) kv M) (hi : I64in t) (x : Obj) :
    EachN (w5.alloc x) (OffX B (fun _ => False) (w5.alloc x) o) (.cons t [] M .nil) [.int .i64 t, .slice none 0 0, kv] :=
  ⟨_, _, _, rfl, hi, BsS.nil0 _ _, hv.keep fun b hs hl => ⟨Below.heap_alloc _ _ _ hl, off_later h hB hs.1 (by simp; omega)⟩, rfl⟩
theorem one_set {w5 : World} {S : Nat → Prop} {kv : Value} {L : Ns} {t : Int} {ty : TypeId} (h : NsS w5 S kv L) (_hs : ∀ b, S b → b < w5.heap.size) (hi : I64in t := by exact ⟨by decide, by decide⟩) :
    NsS (w5.alloc (.cells #[.int .i64 t, .slice none 0 0, kv] ty)) (· < (w5.alloc (.cells #[.int .i64 t, .slice none 0 0, kv] ty)).heap.size) (.slice (some ⟨w5.heap.size, 0, none⟩) 1 1) (.cons t [] L .nil) :=
  NsS.one (heap_alloc_new _ _) (by simp) hi (BsS.nil0 _ _) (h.keep fun b hb hl => ⟨Below.heap_alloc _ _ _ hl, by show b < _; rw [alloc_size]; omega⟩)
set_option maxRecDepth 100000 in
set_option maxHeartbeats 4000000 in
theorem rset_any (l : List Inf) (v : Value) (S : Nat → Prop) (w : World) (h0 : validP l = 0) (hv : InfS w S v l) : Calls Tryd.prog 31 #[v] w (SetEnd l w) := by
  obtain ⟨a, c, rfl⟩ := hv.form
  obtain ⟨b, off, hb⟩ := hv.at
  have HB := Lib.hid hb
  have hl16 := valid_len h0
  have hvf : validF none l = 0 := by unfold validP at h0; rw [if_neg (by omega)] at h0; exact h0
  have HVF := Lib.hid hvf
  clear hb h0 hvf hv
  have hrn := heap_alloc_new w (.cells #[.int .i64 0, .slice none 0 0, .slice none 0 0] 53)
  have hB0 : Below w.heap.size w (w.alloc (.cells #[.int .i64 0, .slice none 0 0, .slice none 0 0] 53)) := (Below.refl _ _).alloc (Nat.le_refl _) _
  go_enter Tryd.func31, Tryd.ntmps31
  go_wp2_with fail
  obtain ⟨w0, hw0⟩ : ∃ w0, w0 = w.alloc (.cells #[.int .i64 0, .slice none 0 0, .slice none 0 0] 53) := ⟨_, rfl⟩
  rw [← hw0] at hrn hB0 ⊢
  have hz0 : w0.heap.size = w.heap.size + 1 := by rw [hw0]; simp
  have HRN := Lib.hid hrn; have HB0 := Lib.hid hB0; have HZ := Lib.hid hz0
  clear hrn hB0 hw0 hz0
  go_loopg [4, 3] l.length (fun m i o wr => ∃ (R D : List Inf) (q : Option Inf), D ++ R = l ∧ R.length = m ∧ i = .int .i64 D.length ∧ D.length + R.length = l.length ∧ OwnX wr w0.heap.size (fun _ => False) o (setK D) ∧ Below w0.heap.size w0 wr ∧ Hid (validF q R = 0) ∧ InfsAt w R b (off + D.length * 5))
  case atStart => exact ⟨l, [], none, rfl, rfl, rfl, by simp, OwnX.nil _ _ _, Below.refl _ _, HVF, by rw [List.length_nil, Nat.zero_mul, Nat.add_zero]; exact InfsAt.zero HB.out⟩
  case round =>
    obtain ⟨R, D, q, hl, rfl, rfl, hj, how, hbw, hvr, hat⟩ := hrel
    have HLR := Lib.hid hl; have HOW := Lib.hid how; have HBW := Lib.hid hbw
    clear hl how hbw
    obtain ⟨ao, co, ho⟩ := HOW.out.form
    rw [setK_len] at ho
    subst ho
    cases R with
    | nil =>
      have hDl : D = l := by have := HLR.out; simpa using this
      subst hDl
      clear hat hvr hj HLR
      go_wp2_with (go_at_call 54; refine (rcon_any 49 _ _ ⟨_, _, _, rfl⟩).mono ?_; rintro e w6 ⟨rfl, h6⟩; have HB6 := Lib.hid h6; have hr6 := (h6.block w.heap.size (by have := HZ.out; have := HBW.out.size; omega)).trans ((HBW.out.block w.heap.size (by have := HZ.out; omega)).trans HRN.out); obtain ⟨r0, r1, r2, rf⟩ := node_three hr6; have rf0 := rf 0; have rf1 := rf 1; have rf2 := rf 2; have HR6 := Lib.hid hr6; clear h6 rf hr6)
      obtain ⟨y0, y1, y2, _⟩ := node_three (row_set (o := 2) (v := .slice ao D.length co) (row_set (o := 1) (v := .slice none 0 0) (row_set (o := 0) (v := .int .i64 49) HR6.out)))
      refine bodyPost_ret (v := .agg #[.int .i64 49, .slice none 0 0, .slice ao D.length co]) (by simp [results, Tryd.results31, go_sem, y0, y1, y2]) rfl ⟨_, rfl, ((HOW.out.below HB6.out).nss (by rw [setK_len]; omega)).keep fun b hs hb' => ⟨?_, by have := HZ.out; omega, by simpa [World.setCell] using hs.2⟩, ?_⟩
      · have hne : b ≠ w.heap.size := by have := HZ.out; have := hs.1; omega
        rw [Below.heap_setCell _ _ _ _ hne, Below.heap_setCell _ _ _ _ hne, Below.heap_setCell _ _ _ _ hne]
      · exact ((((HB0.out.trans (HBW.out.mono HB0.out.size)).trans (HB6.out.mono (Nat.le_trans HB0.out.size HBW.out.size))).setCell (Nat.le_refl _) _).setCell (Nat.le_refl _) _).setCell (Nat.le_refl _) _
    | cons x R =>
      obtain ⟨p, ve, r, k, d⟩ := x
      obtain ⟨hchk, hrv⟩ := validF_cons hvr.out
      obtain ⟨⟨h0, h1, h2, h3, h4⟩, _, hrest⟩ := hat
      simp only [List.length_cons] at hj
      obtain ⟨ha, ⟨_, hbl⟩, _⟩ := HB.out (by omega)
      subst ha
      have HW : Hid (Below w.heap.size w wr) := Lib.hid (HB0.out.trans (HBW.out.mono HB0.out.size))
      have c0 := (HW.out.cell (p := ⟨b, off + D.length * 5, none⟩) hbl).trans h0
      have c1 := (HW.out.cell (p := ⟨b, off + D.length * 5 + 1, none⟩) hbl).trans h1
      have c2 := (HW.out.cell (p := ⟨b, off + D.length * 5 + 2, none⟩) hbl).trans h2
      have c3 := (HW.out.cell (p := ⟨b, off + D.length * 5 + 3, none⟩) hbl).trans h3
      have c4 := (HW.out.cell (p := ⟨b, off + D.length * 5 + 4, none⟩) hbl).trans h4
      have HRV := Lib.hid hrv; have HRS : Hid (InfsAt w R b (off + (D ++ [(⟨p, ve, r, k, d⟩ : Inf)]).length * 5)) := Lib.hid (by rw [List.length_append, List.length_singleton, show off + (D.length + 1) * 5 = off + D.length * 5 + 5 by omega]; exact hrest)
      have HO := Lib.hid (robject_any ⟨p, ve, r, k, d⟩ wr hchk)
      have hlt : D.length < l.length := by omega
      have H48 : Hid (I64in 48) := Lib.hid ⟨by decide, by decide⟩
      obtain ⟨KL, HKL⟩ : ∃ KL, Hid (KL = (kidsI ⟨p, ve, r, k, d⟩).len) := ⟨_, Lib.hid rfl⟩
      have HM1 : Hid (1 = (Ns.cons 48 [] (kidsI ⟨p, ve, r, k, d⟩) .nil).len) := Lib.hid rfl
      have hml : (setK D).len + (Ns.cons 48 [] (kidsI ⟨p, ve, r, k, d⟩) .nil).len ≤ 1000000000000 := by rw [setK_len]; simp [Ns.len]; omega
      clear hrv hrest hchk hvr h0 h1 h2 h3 h4
      go_wp2_with (first
        | (go_at_call 53; refine HO.out.mono ?_; rintro e w5 ⟨kv, rfl, h1, h2⟩; obtain ⟨a5, c5, rfl⟩ : ∃ A c, kv = .slice A KL c := (by rw [HKL.out]; exact h1.form3); have HV5 := Lib.hid h1; have HW5 := Lib.hid h2; clear h1 h2)
        | (at_builtin; (with_reducible refine wpList_nodes (w := w5.alloc (.cells #[.int .i64 48, .slice none 0 0, .slice a5 KL c5] 53)) rfl (.tmp 11) (.tmp 17) rfl w0.heap.size (fun _ => False) (.slice ao D.length co) (setK D) (.cons 48 [] (kidsI ⟨p, ve, r, k, d⟩) .nil) rfl (own_later HOW.out HW5.out _) w5.heap.size 1 [.int .i64 48, .slice none 0 0, .slice a5 KL c5] #[.int .i64 48, .slice none 0 0, .slice a5 KL c5] 53 (0, 0) rfl HM1.out (heap_alloc_new _ _) rfl (each_obj HOW.out HBW.out.size HV5.out H48.out _) hml (by rw [alloc_size]; have := HW5.out.size; have := HBW.out.size; omega) id ?_); intro o' w' hG; rw [← setK_snoc] at hG; obtain ⟨ao2, co2, ho'⟩ := hG.1.form; rw [setK_len, List.length_append, List.length_singleton] at ho'; subst ho'; have HBE := Lib.hid ((HBW.out.trans ((HW5.out.alloc HW5.out.size (.cells #[.int .i64 48, .slice none 0 0, .slice a5 KL c5] 53)).mono HBW.out.size)).trans hG.2.1); have HOE := Lib.hid hG.1; clear hG))
      go_roundg R.length
      case measure => simp
      case rel => exact ⟨R, D ++ [⟨p, ve, r, k, d⟩], some ⟨p, ve, r, k, d⟩, by rw [List.append_assoc]; exact HLR.out, rfl, by rw [List.length_append, List.length_singleton]; go_num, by rw [List.length_append, List.length_singleton]; omega, HOE.out, HBE.out, HRV, HRS.out⟩
set_option maxRecDepth 100000 in
set_option maxHeartbeats 1000000 in
theorem riencode_any (l : List Inf) (v : Value) (S : Nat → Prop) (w : World) (hv : InfS w S v l) : Calls Tryd.prog 9 #[v] w (BytesOut (encI l) w) := by
  have HV := Lib.hid (rivalid_any l v S w hv)
  obtain ⟨a, c, rfl⟩ := hv.form
  by_cases h0 : validP l = 0
  · have E : Hid (encI l = encP (.cons 49 [] (setK l) .nil)) := by show _ = _; unfold encI; rw [if_pos h0]
    have hl16 := valid_len h0
    have hvo := HV.out
    rw [h0] at hvo
    have HV0 := Lib.hid hvo
    have HS := Lib.hid (fun w1 (h : Below w.heap.size w w1) => rset_any l _ (fun b => S b ∧ b < w.heap.size) w1 h0 (hv.keep fun b hs hl => ⟨h.block b hl, hs, hl⟩))
    have hall : (Ns.cons 49 [] (setK l) .nil).all ≤ 100000000000 := by have := setK_all l; simp only [Ns.all]; omega
    have HALL := Lib.hid hall
    obtain ⟨KL, HKL⟩ : ∃ KL, Hid (KL = (setK l).len) := ⟨_, Lib.hid rfl⟩
    clear hvo HV hv h0 hall
    go_enter Tryd.func9, Tryd.ntmps9
    go_wp2_with (first
      | (go_at_call 14; refine HV0.out.mono ?_; rintro e w0 ⟨rfl, h1⟩; have H1 := Lib.hid h1; clear h1)
      | (go_at_call 31; refine (HS.out _ H1.out).mono ?_; rintro e w5 ⟨kv, rfl, h1, h2⟩; obtain ⟨a5, c5, rfl⟩ : ∃ A c, kv = .slice A KL c := (by rw [HKL.out]; exact h1.form3); have HV5 := Lib.hid h1; have HW5 := Lib.hid h2; have HE := Lib.hid (rencode_any (.cons 49 [] (setK l) .nil) _ (w5.alloc (.cells #[.int .i64 49, .slice none 0 0, .slice a5 KL c5] 53)) (one_set HV5.out fun b hs => hs.2) HALL.out); clear h1 h2)
      | (go_at_call 30; refine HE.out.mono ?_; rintro e w6 ⟨v6, rfl, h1, h2⟩; have R1 := Lib.hid h1; have R2 := Lib.hid h2; clear h1 h2))
    go_ret2
    rw [E.out]
    refine ⟨_, rfl, R1.out.keep fun b hs _ => ⟨rfl, ?_, hs.2⟩, ?_⟩
    · have := hs.1; have h3 := H1.out.size; have h4 := HW5.out.size; rw [alloc_size] at this; omega
    · exact ((H1.out.trans (HW5.out.mono H1.out.size)).alloc (Nat.le_trans H1.out.size HW5.out.size) _).trans (R2.out.mono (by have h3 := H1.out.size; have h4 := HW5.out.size; rw [alloc_size]; omega))
  · have E : Hid (encI l = .error (validP l)) := by show _ = _; unfold encI; rw [if_neg h0]
    have hvo := HV.out
    obtain ⟨er, her⟩ : ∃ er, validP l = er := ⟨_, rfl⟩
    rw [her] at hvo h0 E
    have HV0 := Lib.hid hvo
    have h0' : (er != 0) = true := by simp [h0]
    clear hvo HV hv h0 her
    go_enter Tryd.func9, Tryd.ntmps9
    go_wp2_with (go_at_call 14; refine HV0.out.mono ?_; rintro e w0 ⟨rfl, h1⟩; have H1 := Lib.hid h1; clear h1)
    go_ret2
    exact BytesOut.no E.out H1.out
end Go.Proofs.YtdpiehhblflacaaDoor
