/- Basic access: messages, both sides; Ask. -/
import Derived.Test.YtjbmmdcnccclaaaDoorBas1
import Derived.Test.YtjbmmdcnccclaaaDoorQCheckM
import Derived.Test.YtjbmmdcnccclaaaDoorQDouble
import Derived.Test.YtjbmmdcnccclaaaDoorReg
import Derived.StillTailTactics
import Derived.Test.YtjbmmdcnccclaaaDoorQByteEq
import Derived.Test.YtjbmmdcnccclaaaDoorQSame
namespace Go.Proofs.YtjbmmdcnccclaaaDoor
open Go.RowKit Go.Deep

/-- The message of 32 bytes under the keys of a seed. -/
def msgW (seed p : List UInt8) : List UInt8 := sealO (keyW seed 1) Z16 p ++ (codeO (keyW seed 2) (sealO (keyW seed 1) Z16 p)).take 8
theorem sealO_len32 (k p : List UInt8) (hp : p.length = 32) : (sealO k Z16 p).length = 32 := by
  rw [sealO_sP k Z16 p (m := 2) (by omega), sP_len]
theorem codeO8 (k p : List UInt8) (hk : k.length = 16) : ((codeO k p).take 8).length = 8 := by rw [List.length_take, codeO_len hk]; rfl
theorem msgW_len (seed p : List UInt8) (hp : p.length = 32) : (msgW seed p).length = 40 := by
  unfold msgW; rw [List.length_append, sealO_len32 _ _ hp, codeO8 _ _ (keyW_len _ _)]
set_option maxRecDepth 100000 in
set_option maxHeartbeats 4000000 in
theorem message_any (vd vf vs vh : Value) (seed f s h : List UInt8) (w : World) (hK : KD w) (hd : Bs w w.heap.size vd seed) (hf : Bs w w.heap.size vf f) (hs : Bs w w.heap.size vs s) (hh : Bs w w.heap.size vh h) (hl : seed.length ≤ 1000) (h32 : (f ++ s ++ h).length = 32) :
    Calls Tryd.prog 27 #[vd, vf, vs, vh] w fun e w' => ∃ v', e = .returned v' ∧ OwnB w' w.heap.size v' (msgW seed (f ++ s ++ h)) ∧ Below w.heap.size w w' := by
  have HKS := Lib.hid (keys_any vd seed w hK hd (by omega))
  have HF := Lib.hid hf; have HS := Lib.hid hs; have HH := Lib.hid hh; have HLN := Lib.hid h32
  have HL7 := Lib.hid (sealO_len32 (keyW seed 1) _ h32)
  have HL8 := Lib.hid (codeO8 (keyW seed 2) (sealO (keyW seed 1) Z16 (f ++ s ++ h)) (keyW_len _ _))
  obtain ⟨da, dn, dc, rfl⟩ := hd.form
  obtain ⟨fa, fn, fc, rfl⟩ := hf.form
  obtain ⟨sa, sn, sc, rfl⟩ := hs.form
  obtain ⟨ha, hn, hc, rfl⟩ := hh.form
  have HCL : Hid (catL [(.slice fa fn fc, f), (.slice sa sn sc, s), (.slice ha hn hc, h)] = f ++ s ++ h) := Lib.hid (by simp [catL])
  clear hK hd hf hs hh hl h32
  go_enter Tryd.func27, Tryd.ntmps27
  go_upto_region 2 with (go_at_call 39; refine HKS.out.mono ?_; rintro e w2 ⟨a1, c1, b1, d1, rfl, hk1, hk2, hb⟩; have HK1 := Lib.hid hk1; have HK2 := Lib.hid hk2; have HW2 := Lib.hid hb; clear hk1 hk2 hb)
  have HB3 : Hid (∀ W, Below w2.heap.size w2 W → ∀ p ∈ [(Value.slice fa fn fc, f), (.slice sa sn sc, s), (.slice ha hn hc, h)], BsS W (· < w2.heap.size) p.1 p.2) := Lib.hid (fun W hW p hp => by
    have k : ∀ {v : Value} {l : List UInt8}, Bs w w.heap.size v l → BsS W (· < w2.heap.size) v l := fun hx => BsS.keep hx fun g hg hl => ⟨(hW.block g (Nat.lt_of_lt_of_le hg HW2.out.size)).trans (HW2.out.block g hg), Nat.lt_of_lt_of_le hg HW2.out.size⟩
    simp only [List.mem_cons, List.not_mem_nil, or_false] at hp
    rcases hp with rfl | rfl | rfl
    · exact k HF.out
    · exact k HS.out
    · exact k HH.out)
  refine wp_region_rg 13 [some 21, some 22, some 23, some 24, some 25, some 26, some 27, some 28, some 20, some 29, some 30, some 11, some 12] [[], [], [], [], [], [2, 3, 4], [2, 3, 4, 5], [0, 1, 2, 3, 4, 5, 6], [0, 1, 2, 3, 4, 5, 6, 7], [0, 1, 2, 3, 4, 5, 6, 7, 8], [0, 1, 2, 3, 4, 5, 6, 7, 8], [0, 1, 2, 3, 4, 5, 6, 7, 8, 9], [0, 1, 2, 3, 4, 5, 6, 7, 8, 9, 10, 11]]
    (fun _ _ w1 => Below w2.heap.size w2 w1) (fun w1 w2 => Below w1.heap.size w1 w2)
    [fun v _ => v 0 = .slice a1 16 c1,
     fun v w1 => ∃ q, v 1 = .slice (some ⟨q, 0, none⟩) 16 16 ∧ BsS w1 (New w2 w1) (.slice (some ⟨q, 0, none⟩) 16 16) Z16,
     fun v _ => v 2 = .slice fa fn fc,
     fun v _ => v 3 = .slice sa sn sc,
     fun v _ => v 4 = .slice ha hn hc,
     fun v w1 => ∃ q, v 5 = .slice (some ⟨q, 0, none⟩) 3 3 ∧ w1.heap[q]? = some (.cells #[.slice fa fn fc, .slice sa sn sc, .slice ha hn hc] 23 (0, 0)),
     fun v w1 => ∃ A c, v 6 = .slice A 32 c ∧ BsS w1 (New w2 w1) (.slice A 32 c) (f ++ s ++ h),
     fun v w1 => ∃ A c, v 7 = .tuple #[.slice A 32 c, .int .i64 0] ∧ OwnB w1 w2.heap.size (.slice A 32 c) (sealO (keyW seed 1) Z16 (f ++ s ++ h)),
     fun v w1 => ∃ A c, v 8 = .tuple #[.slice A 32 c, .int .i64 0] ∧ OwnB w1 w2.heap.size (.slice A 32 c) (sealO (keyW seed 1) Z16 (f ++ s ++ h)),
     fun v w1 => ∃ A c, v 9 = .slice A 32 c ∧ OwnB w1 w2.heap.size (.slice A 32 c) (sealO (keyW seed 1) Z16 (f ++ s ++ h)),
     fun v _ => v 10 = .int .i64 0,
     fun v w1 => ∃ A c, v 11 = .slice A 32 c ∧ OwnB w1 w2.heap.size (.slice A 32 c) (sealO (keyW seed 1) Z16 (f ++ s ++ h)),
     fun v _ => v 12 = .int .i64 0]
    (by kernel_rfl) (by kernel_rfl) (fun _ => (Below.refl _ _).drew) ?st ?steps ?tail
  case st =>
    exact (.cons (fun _ _ _ _ _ _ h => h) (.cons (fun _ _ _ _ _ hr ⟨q, e, h⟩ => ⟨q, e, BsS.keep h fun g hs hl => ⟨hr.block g hl, hs.1, Nat.lt_of_lt_of_le hs.2 hr.size⟩⟩) (.cons (fun _ _ _ _ _ _ h => h) (.cons (fun _ _ _ _ _ _ h => h) (.cons (fun _ _ _ _ _ _ h => h) (.cons (fun _ _ _ _ _ hr ⟨q, e, h⟩ => ⟨q, e, (hr.block q (Array.getElem?_eq_some_iff.1 h).1).trans h⟩) (.cons (fun _ _ _ _ _ hr ⟨A, c, e, h⟩ => ⟨A, c, e, BsS.keep h fun g hs hl => ⟨hr.block g hl, hs.1, Nat.lt_of_lt_of_le hs.2 hr.size⟩⟩) (.cons (fun _ _ _ _ _ hr ⟨A, c, e, h⟩ => ⟨A, c, e, own_later h hr⟩) (.cons (fun _ _ _ _ _ hr ⟨A, c, e, h⟩ => ⟨A, c, e, own_later h hr⟩) (.cons (fun _ _ _ _ _ hr ⟨A, c, e, h⟩ => ⟨A, c, e, own_later h hr⟩) (.cons (fun _ _ _ _ _ _ h => h) (.cons (fun _ _ _ _ _ hr ⟨A, c, e, h⟩ => ⟨A, c, e, own_later h hr⟩) (.cons (fun _ _ _ _ _ _ h => h) .nil)))))))))))))
  case steps =>
    simp only [List.take_succ_cons, List.take_zero]
    refine (.cons ?_ (.cons ?_ (.cons ?_ (.cons ?_ (.cons ?_ (.cons ?_ (.cons ?_ (.cons ?_ (.cons ?_ (.cons ?_ (.cons ?_ (.cons ?_ (.cons ?_ .nil)))))))))))))
    all_goals (intro L v w1 hJ hL hA hF K hK; simp only [fillRG, Act.put, Nat.zero_add, Nat.reduceAdd, List.setIfInBounds_toArray, List.set_cons_zero, List.set_cons_succ] at hK ⊢)
    · go_simp
      refine hK _ _ hJ (Below.refl _ _) ?_
      first | exact rfl | exact val_mod _
    · have Hm := make16
      go_simp
      exact hK _ _ (hJ.trans ((zero16b w1).mono hJ.size)) (zero16b w1) ⟨_, rfl, BsS.keep (zero_z w1) fun g hs _ => ⟨rfl, Nat.le_trans hJ.size hs.1, hs.2⟩⟩
    · go_simp
      refine hK _ _ hJ (Below.refl _ _) ?_
      first | exact rfl | exact val_mod _
    · go_simp
      refine hK _ _ hJ (Below.refl _ _) ?_
      first | exact rfl | exact val_mod _
    · go_simp
      refine hK _ _ hJ (Below.refl _ _) ?_
      first | exact rfl | exact val_mod _
    · have e2 : v 2 = .slice fa fn fc := hF 2 (hA 2 (by simp))
      have e3 : v 3 = .slice sa sn sc := hF 3 (hA 3 (by simp))
      have e4 : v 4 = .slice ha hn hc := hF 4 (hA 4 (by simp))
      simp only [e2, e3, e4] at hK
      go_simp
      exact hK _ _ (hJ.alloc hJ.size _) ((Below.refl _ _).alloc (Nat.le_refl _) _) ⟨_, rfl, heap_alloc_new _ _⟩
    · obtain ⟨q, e5, hq⟩ : ∃ q, v 5 = .slice (some ⟨q, 0, none⟩) 3 3 ∧ w1.heap[q]? = some (.cells #[.slice fa fn fc, .slice sa sn sc, .slice ha hn hc] 23 (0, 0)) := hF 5 (hA 5 (by simp))
      simp only [e5] at hK
      go_simp
      refine (concat_any [(.slice fa fn fc, f), (.slice sa sn sc, s), (.slice ha hn hc, h)] q (· < w2.heap.size) w1 23 hq (HB3.out w1 hJ) (by rw [HCL.out, HLN.out]; omega) (by simp)).mono ?_
      rintro e w5 ⟨v5, rfl, ho, hb⟩
      rw [HCL.out] at ho
      obtain ⟨A5, c5, e5⟩ := ho.form
      rw [HLN.out] at e5
      subst e5
      exact hK _ _ (hJ.trans (hb.mono hJ.size)) hb ⟨_, _, rfl, (ho.out (by rw [HLN.out]; omega) w1 (Nat.le_refl _)).keep fun g hs _ => ⟨rfl, Nat.le_trans hJ.size hs.1, hs.2⟩⟩
    · have e0 : v 0 = .slice a1 16 c1 := hF 0 (hA 0 (by simp))
      simp only [e0] at hK
      obtain ⟨q1, e1, hz1⟩ : ∃ q, v 1 = .slice (some ⟨q, 0, none⟩) 16 16 ∧ BsS w1 (New w2 w1) (.slice (some ⟨q, 0, none⟩) 16 16) Z16 := hF 1 (hA 1 (by simp))
      obtain ⟨A6, c6, e6, hb6⟩ : ∃ A c, v 6 = .slice A 32 c ∧ BsS w1 (New w2 w1) (.slice A 32 c) (f ++ s ++ h) := hF 6 (hA 6 (by simp))
      have HZ := Lib.hid (show Bs w1 w1.heap.size _ _ from BsS.keep hz1 fun g hs _ => ⟨rfl, hs.2⟩); have HP := Lib.hid (show Bs w1 w1.heap.size _ _ from BsS.keep hb6 fun g hs _ => ⟨rfl, hs.2⟩)
      have HE := Lib.hid (show Bs w1 w1.heap.size _ _ from BsS.keep HK1.out fun g hs hl => ⟨hJ.block g hl, Nat.lt_of_lt_of_le hs.2 hJ.size⟩)
      clear hz1 hb6
      simp only [e1, e6] at hK
      go_simp
      refine (seal_own _ _ _ (keyW seed 1) Z16 (f ++ s ++ h) 2 (keyW_len _ _) Z16_len HLN.out w1 HE.out HZ.out HP.out).mono ?_
      rintro e w7 ⟨v7, rfl, ho7, hb7⟩
      obtain ⟨A7, c7, hv7⟩ := OwnB.form ho7
      rw [HL7.out] at hv7
      subst hv7
      exact hK _ _ (hJ.trans (hb7.mono hJ.size)) hb7 ⟨A7, c7, rfl, own_wide ho7 hJ.size⟩
    · obtain ⟨A, c, e7, hh⟩ : ∃ A c, v 7 = .tuple #[.slice A 32 c, .int .i64 0] ∧ OwnB w1 w2.heap.size (.slice A 32 c) (sealO (keyW seed 1) Z16 (f ++ s ++ h)) := hF 7 (hA 7 (by simp))
      simp only [e7] at hK
      go_simp
      exact hK _ _ hJ (Below.refl _ _) ⟨A, c, rfl, hh⟩
    · obtain ⟨A, c, e8, hh⟩ : ∃ A c, v 8 = .tuple #[.slice A 32 c, .int .i64 0] ∧ OwnB w1 w2.heap.size (.slice A 32 c) (sealO (keyW seed 1) Z16 (f ++ s ++ h)) := hF 8 (hA 8 (by simp))
      simp only [e8] at hK
      go_simp
      exact hK _ _ hJ (Below.refl _ _) ⟨A, c, rfl, hh⟩
    · obtain ⟨A, c, e8, hh⟩ : ∃ A c, v 8 = .tuple #[.slice A 32 c, .int .i64 0] ∧ OwnB w1 w2.heap.size (.slice A 32 c) (sealO (keyW seed 1) Z16 (f ++ s ++ h)) := hF 8 (hA 8 (by simp))
      simp only [e8] at hK
      go_simp
      exact hK _ _ hJ (Below.refl _ _) rfl
    · obtain ⟨A, c, e9, hh⟩ : ∃ A c, v 9 = .slice A 32 c ∧ OwnB w1 w2.heap.size (.slice A 32 c) (sealO (keyW seed 1) Z16 (f ++ s ++ h)) := hF 9 (hA 9 (by simp))
      simp only [e9] at hK
      go_simp
      exact hK _ _ hJ (Below.refl _ _) ⟨A, c, rfl, hh⟩
    · have e10 : v 10 = .int .i64 0 := hF 10 (hA 10 (by simp))
      simp only [e10] at hK
      go_simp
      refine hK _ _ hJ (Below.refl _ _) ?_
      first | exact rfl | exact val_mod _
  case tail =>
    intro v w1 hJ hF
    have e0 : v 0 = .slice a1 16 c1 := hF 0 (by simp)
    have e2 : v 2 = .slice fa fn fc := hF 2 (by simp)
    have e3 : v 3 = .slice sa sn sc := hF 3 (by simp)
    have e4 : v 4 = .slice ha hn hc := hF 4 (by simp)
    have e10 : v 10 = .int .i64 0 := hF 10 (by simp)
    have e12 : v 12 = .int .i64 0 := hF 12 (by simp)
    obtain ⟨A7, c7, e11, ho7⟩ : ∃ A c, v 11 = .slice A 32 c ∧ OwnB w1 w2.heap.size (.slice A 32 c) (sealO (keyW seed 1) Z16 (f ++ s ++ h)) := hF 11 (by simp)
    simp only [List.drop_succ_cons, List.drop_zero, fillRG, Act.put, Nat.zero_add, Nat.reduceAdd, List.setIfInBounds_toArray, List.set_cons_zero, List.set_cons_succ]
    have HO7 := Lib.hid ho7; have HB7 := Lib.hid hJ
    have HS7 : Hid (Bs w1 w1.heap.size (.slice A7 32 c7) (sealO (keyW seed 1) Z16 (f ++ s ++ h))) := Lib.hid ((ho7.out (by rw [HL7.out]; omega) w2 (Nat.le_refl _)).keep fun g hg _ => ⟨rfl, hg.2⟩)
    have HQ7 : Hid (Bs w1 w1.heap.size (.slice b1 16 d1) (keyW seed 2)) := Lib.hid (BsS.keep HK2.out fun g hs hl => ⟨hJ.block g hl, Nat.lt_of_lt_of_le hs.2 hJ.size⟩)
    simp only [e11]
    clear hJ hF ho7
    go_wp2_with (first
      | (at_builtin; (with_reducible refine wpList_more rfl (.tmp 37) (.tmp 38) rfl w2.heap.size (.slice A7 32 c7) (sealO (keyW seed 1) Z16 (f ++ s ++ h)) rfl HO8.out A8 8 c8 ((codeO (keyW seed 2) (sealO (keyW seed 1) Z16 (f ++ s ++ h))).take 8) (fun g => g < w8.heap.size) rfl HS8.out (by rw [HL7.out, HL8.out]; omega) HB8.out.size ?_); intro v9 w9 hG; have HO9 := Lib.hid hG.1; have HB9 := Lib.hid (HB8.out.trans hG.2.1); clear hG)
      | (go_at_call 42; refine (check_good _ _ (keyW seed 2) (sealO (keyW seed 1) Z16 (f ++ s ++ h)) (keyW_len _ _) (by rw [HL7.out]; omega) w1 HQ7.out HS7.out).mono ?_; rintro e w8 ⟨v8, rfl, hs8, hb8⟩; obtain ⟨A8, c8, hv8⟩ : ∃ A c, v8 = .slice A 8 c := (by obtain ⟨a, c, e, _⟩ := hs8; rw [HL8.out] at e; exact ⟨a, c, e⟩); subst hv8; have HS8 := Lib.hid hs8; have HO8 := Lib.hid (own_later HO7.out hb8); have HB8 := Lib.hid (HB7.out.trans (hb8.mono HB7.out.size)); clear hs8 hb8))
    go_ret
    refine ⟨_, rfl, own_wide HO9.out HW2.out.size, HW2.out.trans (HB9.out.mono HW2.out.size)⟩
end Go.Proofs.YtjbmmdcnccclaaaDoor
/- Basic access: the reference's message; Ask on both sides. -/
namespace Go.Proofs.YtjbmmdcnccclaaaDoor
open Go.RowKit Go.Deep

theorem bs_later {w w' : World} {v : Value} {l : List UInt8} {S : Nat → Prop} (h : BsS w S v l) (hS : ∀ b, S b → b < w.heap.size) (hb : Below w.heap.size w w') : Bs w' w'.heap.size v l := BsS.keep h fun g hs _ => ⟨hb.block g (hS g hs), Nat.lt_of_lt_of_le (hS g hs) hb.size⟩
set_option maxRecDepth 100000 in
set_option maxHeartbeats 2000000 in
theorem rmessage_any (vd vb : Value) (seed p : List UInt8) (w : World) (hK : KR w) (hd : Bs w w.heap.size vd seed) (hp : Bs w w.heap.size vb p) (hl : seed.length ≤ 1000) (h32 : p.length = 32) :
    Calls Tryd.prog 28 #[vd, vb] w fun e w' => ∃ v', e = .returned v' ∧ OwnB w' w.heap.size v' (msgW seed p) ∧ Below w.heap.size w w' := by
  have HKS := Lib.hid (rkeys_any vd seed w hK hd (by omega))
  have HP := Lib.hid hp; have HLN := Lib.hid h32
  have HL7 := Lib.hid (sealO_len32 (keyW seed 1) _ h32)
  have HL8 := Lib.hid (codeO8 (keyW seed 2) (sealO (keyW seed 1) Z16 p) (keyW_len _ _))
  have Hm := make16
  obtain ⟨da, dn, dc, rfl⟩ := hd.form
  obtain ⟨pa, pn, pc, rfl⟩ := hp.form
  clear hK hd hp hl h32
  go_enter Tryd.func28, Tryd.ntmps28
  go_wp2_with (first
    | (go_at_call 29; refine (join_any _ _ (sealO (keyW seed 1) Z16 p) ((codeO (keyW seed 2) (sealO (keyW seed 1) Z16 p)).take 8) _ _ w8 HS8.out HC8.out (by rw [HL7.out, HL8.out]; omega)).mono ?_; rintro e w9 ⟨v9, rfl, ho, hb⟩; have HO9 := Lib.hid (own_wide ho HB8.out.size); have HB9 := Lib.hid (HB8.out.trans (hb.mono HB8.out.size)); clear ho hb)
    | (go_at_call 45; refine (rcheck_good _ _ (keyW seed 2) (sealO (keyW seed 1) Z16 p) (keyW_len _ _) (by rw [HL7.out]; omega) w7 (bs_later HK2.out (fun _ h => h.2) HB7.out.2) HS7.out).mono ?_; rintro e w8 ⟨v8, rfl, hs8, hb8⟩; obtain ⟨A8, c8, hv8⟩ : ∃ A c, v8 = .slice A 8 c := (by obtain ⟨a, c, e, _⟩ := hs8; rw [HL8.out] at e; exact ⟨a, c, e⟩); subst hv8; have HC8 := Lib.hid hs8; have HS8 := Lib.hid (bs_later HS7.out (fun _ h => h) hb8); have HB8 := Lib.hid (HB7.out.1.trans (hb8.mono HB7.out.1.size)); clear hs8 hb8)
    | (go_at_call 44; refine (refSeal_good _ _ _ (keyW seed 1) Z16 p 2 (keyW_len _ _) Z16_len HLN.out (wz w2) (bs_later HK1.out (fun _ h => h.2) (zero16b w2)) (zero_z w2).bs (bs_later (HP.out.lift HW2.out) (fun _ h => h) (zero16b w2))).mono ?_; rintro e w7 ⟨v7, rfl, hs7, hb7⟩; obtain ⟨A7, c7, hv7⟩ : ∃ A c, v7 = .slice A 32 c := (by obtain ⟨a, c, e, _⟩ := hs7; rw [HL7.out] at e; exact ⟨a, c, e⟩); subst hv7; have HS7 : Hid (Bs w7 w7.heap.size (.slice A7 32 c7) (sealO (keyW seed 1) Z16 p)) := Lib.hid (BsS.keep hs7 fun g hg _ => ⟨rfl, hg.2⟩); have HB7 : Hid (Below w.heap.size w w7 ∧ Below w2.heap.size w2 w7) := Lib.hid ⟨HW2.out.trans (((zero16b w2).trans (hb7.mono (zero16b w2).size)).mono HW2.out.size), (zero16b w2).trans (hb7.mono (zero16b w2).size)⟩; clear hs7 hb7)
    | (go_at_call 43; refine HKS.out.mono ?_; rintro e w2 ⟨a1, c1, b1, d1, rfl, hk1, hk2, hb⟩; have HK1 := Lib.hid hk1; have HK2 := Lib.hid hk2; have HW2 := Lib.hid hb; clear hk1 hk2 hb))
  go_ret
  exact ⟨_, rfl, HO9.out, HB9.out⟩
/-- Whether a seed, a half and two random numbers have their lengths. -/
def askOK (seed chip own half : List UInt8) : Prop := seed.length = 16 ∧ half.length = 16 ∧ chip.length = 8 ∧ own.length = 8
instance (seed chip own half : List UInt8) : Decidable (askOK seed chip own half) := by unfold askOK; infer_instance
def askL (seed chip own half : List UInt8) : List UInt8 := if askOK seed chip own half then msgW seed (own ++ chip ++ half) else []
def askE (seed chip own half : List UInt8) : Int := if askOK seed chip own half then 0 else 2
theorem bs_nil (w : World) (S : Nat → Prop) : BsS w S (.slice none 0 0) [] := ⟨none, 0, rfl, by simp, by omega, by simp, fun h => by simp at h⟩
theorem sizes2 (n m p q : Nat) (a b : Option Addr) (c d : Nat) : sizesB n m [(a, p, c), (b, q, d)] = decide (n = 16 ∧ m = 16 ∧ p = 8 ∧ q = 8) := by
  unfold sizesB
  rw [Bool.eq_iff_iff]
  simp
  omega
set_option maxRecDepth 100000 in
set_option maxHeartbeats 2000000 in
theorem ask_any (vd vc vo vh : Value) (seed chip own half : List UInt8) (w : World) (hK : KD w) (hd : Bs w w.heap.size vd seed) (hc : Bs w w.heap.size vc chip) (ho : Bs w w.heap.size vo own) (hh : Bs w w.heap.size vh half) :
    Calls Tryd.prog 7 #[vd, vc, vo, vh] w fun e w' => ∃ v', e = .returned (.tuple #[v', .int .i64 (askE seed chip own half)]) ∧ BsS w' (New w w') v' (askL seed chip own half) ∧ Below w.heap.size w w' := by
  obtain ⟨da, dn, dc, rfl⟩ := hd.form
  obtain ⟨ca, cn, cc, rfl⟩ := hc.form
  obtain ⟨oa, on, oc, rfl⟩ := ho.form
  obtain ⟨ha, hn, hc', rfl⟩ := hh.form
  obtain rfl := Bs.lenEq hd
  obtain rfl := Bs.lenEq hc
  obtain rfl := Bs.lenEq ho
  obtain rfl := Bs.lenEq hh
  obtain ⟨w1, hw1⟩ : ∃ w1, w1 = w.alloc (.cells #[.slice ca chip.length cc, .slice oa own.length oc] 23) := ⟨_, rfl⟩
  have hB1 : Below w.heap.size w w1 := by rw [hw1]; exact (Below.refl _ _).alloc (Nat.le_refl _) _
  have hg1 : w1.heap[w.heap.size]? = some (.cells ([(ca, chip.length, cc), (oa, own.length, oc)].map slV).toArray 23 (0, 0)) := by rw [hw1]; exact heap_alloc_new _ _
  have HSZ := sizes_any da ha seed.length half.length dc hc' [(ca, chip.length, cc), (oa, own.length, oc)] w.heap.size 23 w1 hg1 (by simp)
  rw [sizes2] at HSZ
  have HSZ := Lib.hid HSZ
  have HB1 := Lib.hid hB1; have HW1 := Lib.hid hw1
  by_cases h : askOK seed chip own half
  · have e1 : decide (seed.length = 16 ∧ half.length = 16 ∧ chip.length = 8 ∧ own.length = 8) = true := decide_eq_true h
    have E : Hid (askL seed chip own half = msgW seed (own ++ chip ++ half) ∧ askE seed chip own half = 0) := Lib.hid ⟨if_pos h, if_pos h⟩
    have h32 : (own ++ chip ++ half).length = 32 := by obtain ⟨_, h2, h3, h4⟩ := h; rw [List.length_append, List.length_append]; omega
    rw [e1] at HSZ
    have HM := Lib.hid (message_any _ _ _ _ seed own chip half w1 (hK.below hB1 hK.lt) (hd.lift hB1) (ho.lift hB1) (hc.lift hB1) (hh.lift hB1) (by obtain ⟨h1, _⟩ := h; omega) h32)
    have HML := Lib.hid (msgW_len seed _ h32)
    clear hd hc ho hh hK hw1 hB1 hg1 e1 h h32
    go_enter Tryd.func7, Tryd.ntmps7
    go_wp2_with (first
      | (go_at_call 27; refine HM.out.mono ?_; rintro e w3 ⟨v3, rfl, ho, hb⟩; have HO3 := Lib.hid ho; have HB3 := Lib.hid hb; clear ho hb)
      | (go_at_call 26; rw [← HW1.out]; refine HSZ.out.mono ?_; rintro e w2 ⟨rfl, hw2⟩; rw [hw2]; clear hw2 w2))
    go_ret2
    rw [E.out.1, E.out.2]
    exact ⟨_, rfl, (OwnB.out HO3.out (by rw [HML.out]; omega) w HB1.out.size), HB1.out.trans (HB3.out.mono HB1.out.size)⟩
  · have e1 : decide (seed.length = 16 ∧ half.length = 16 ∧ chip.length = 8 ∧ own.length = 8) = false := decide_eq_false h
    have E : Hid (askL seed chip own half = [] ∧ askE seed chip own half = 2) := Lib.hid ⟨if_neg h, if_neg h⟩
    rw [e1] at HSZ
    clear hd hc ho hh hK hw1 hB1 hg1 e1 h
    go_enter Tryd.func7, Tryd.ntmps7
    go_wp2_with (go_at_call 26; rw [← HW1.out]; refine HSZ.out.mono ?_; rintro e w2 ⟨rfl, hw2⟩; rw [hw2]; clear hw2 w2)
    go_ret2
    rw [E.out.1, E.out.2]
    exact ⟨_, rfl, bs_nil _ _, HB1.out⟩
end Go.Proofs.YtjbmmdcnccclaaaDoor
/- Basic access: halves combined, both sides; the reference's Ask. -/
namespace Go.Proofs.YtjbmmdcnccclaaaDoor
open Go.RowKit Go.Deep

theorem own_z (w : World) : (wz w).ownsRow w.heap.size 5 1 (.slice (some ⟨w.heap.size, 0, none⟩) 16 16) 16 (vals 16 fun _ => 0) := by
  unfold wz
  exact ⟨by simp [vals], .inr ⟨w.heap.size, 16, _, rfl, Nat.le_refl _, heap_alloc_new _ _, Nat.le_refl _, by decide, rfl, rfl⟩⟩
set_option maxRecDepth 100000 in
set_option maxHeartbeats 1000000 in
theorem xor16_any (va vb : Value) (a b : List UInt8) (ha : a.length = 16) (hb : b.length = 16) (w : World) (hva : Bs w w.heap.size va a) (hvb : Bs w w.heap.size vb b) :
    Calls Tryd.prog 55 #[va, vb] w fun e w' => ∃ v', e = .returned (.tuple #[v', .int .i64 0]) ∧ BsS w' (New w w') v' (xorL a b) ∧ Below w.heap.size w w' := by
  obtain ⟨Aa, ca, rfl, hca, _, _, hcella⟩ := hva
  obtain ⟨ab, oa, rfl, hab, hxa⟩ := hcella (by omega)
  obtain ⟨Ab, cb, rfl, hcb, _, _, hcell⟩ := hvb
  obtain ⟨bb, ob, rfl, hbb, hx⟩ := hcell (by omega)
  rw [hb] at hx hcb
  rw [ha] at hxa hca
  rw [ha, hb]
  have HX := Lib.hid hx; have HXA := Lib.hid hxa
  have Hm := make16
  have Hown := Lib.hid (own_z w)
  have HB := Lib.hid (zero16b w)
  clear hcell hcella hx hxa hb ha
  go_enter Tryd.func55, Tryd.ntmps55
  go_wp2_with fail
  go_loopg [18] 16 (fun m i wr => ∃ n : Nat, n + m = 16 ∧ i = .int .i64 n ∧ Hid (wr.ownsRow w.heap.size 5 1 (.slice (some ⟨w.heap.size, 0, none⟩) 16 16) 16 (vals 16 (upto n (fun j => gb a j ^^^ gb b j) (fun _ => 0)))) ∧ Below w.heap.size w wr)
  case atStart => exact ⟨0, rfl, rfl, Lib.hid (by rw [upto_zero]; exact Hown.out), HB.out⟩
  case round =>
    obtain ⟨n, hn, rfl, Hown2, hB⟩ := hrel
    have HB2 := Lib.hid hB; clear hB
    by_cases hlt : n < 16
    · have c1 : wr.cell? ⟨w.heap.size, n, none⟩ = some (U8 0) := by rw [Hown2.out.cellAt n (by omega), vals_get _ _ _ hlt, upto_old (Nat.le_refl _)]
      have f1 := Hown2.out.frozenAt n
      have c2 : wr.cell? ⟨bb, ob + n, none⟩ = some (U8 (gb b n)) := (HB2.out.cell (p := ⟨bb, ob + n, none⟩) hbb).trans (HX.out n hlt)
      have c3 : wr.cell? ⟨ab, oa + n, none⟩ = some (U8 (gb a n)) := (HB2.out.cell (p := ⟨ab, oa + n, none⟩) hab).trans (HXA.out n hlt)
      have n1 : (n : Int) < 16 := by omega
      go_upto_region 7 with fail
      refine wp_region_still_tail 11 (by kernel_rfl) (by kernel_rfl) ?_
      simp only [List.take_succ_cons, List.take_zero, List.drop_succ_cons, List.drop_zero]
      repeat (refine wpStill_step (fun K hK => ?_); go_simp; (try go_bits); refine hK _ ?_; clear hK K)
      refine wpStill_nil ?_
      go_wp2_with fail
      go_roundg (16 - (n + 1))
      case measure => omega
      case rel =>
        obtain ⟨h1, h2⟩ := Hown2.out.stored n (U8 (gb a n ^^^ gb b n))
        have e := vals_upto 16 n (fun j => gb a j ^^^ gb b j) (fun _ => 0)
        rw [e] at h1
        exact ⟨n + 1, by omega, by go_num, Lib.hid h1, HB2.out.drew.setCell (Nat.le_refl _) _⟩
    · have hn16 : n = 16 := by omega
      subst hn16
      go_wp2_with fail
      go_ret2
      have hown3 : OwnB wr w.heap.size (.slice (some ⟨w.heap.size, 0, none⟩) 16 16) (xorL a b) := by
        show World.ownsRow _ _ _ _ _ (xorL a b).length _
        rw [xorL_len]
        unfold xorL
        rw [← vals_bList]
        have e : vals 16 (upto 16 (fun j => gb a j ^^^ gb b j) (fun _ => 0)) = vals 16 fun j => gb a j ^^^ gb b j := vals_congr fun j hj => by unfold upto; rw [if_pos hj]
        rw [← e]
        exact Hown2.out
      exact ⟨_, rfl, hown3.out (by rw [xorL_len]; omega) w (Nat.le_refl _), HB2.out⟩
set_option maxRecDepth 100000 in
set_option maxHeartbeats 1000000 in
theorem rxor16_any (va vb : Value) (a b : List UInt8) (ha : a.length = 16) (hb : b.length = 16) (w : World) (hva : Bs w w.heap.size va a) (hvb : Bs w w.heap.size vb b) :
    Calls Tryd.prog 59 #[va, vb] w fun e w' => ∃ v', e = .returned (.tuple #[v', .int .i64 0]) ∧ BsS w' (New w w') v' (xorL a b) ∧ Below w.heap.size w w' := by
  obtain ⟨Aa, ca, rfl, hca, _, _, hcella⟩ := hva
  obtain ⟨ab, oa, rfl, hab, hxa⟩ := hcella (by omega)
  obtain ⟨Ab, cb, rfl, hcb, _, _, hcell⟩ := hvb
  obtain ⟨bb, ob, rfl, hbb, hx⟩ := hcell (by omega)
  rw [hb] at hx hcb
  rw [ha] at hxa hca
  rw [ha, hb]
  have HX := Lib.hid hx; have HXA := Lib.hid hxa
  have Hm := make16
  have Hown := Lib.hid (own_z w)
  have HB := Lib.hid (zero16b w)
  clear hcell hcella hx hxa hb ha
  go_enter Tryd.func59, Tryd.ntmps59
  go_wp2_with fail
  go_loopg [7] 16 (fun m i wr => ∃ n : Nat, n + m = 16 ∧ i = .int .i64 n ∧ Hid (wr.ownsRow w.heap.size 5 1 (.slice (some ⟨w.heap.size, 0, none⟩) 16 16) 16 (vals 16 (upto n (fun j => gb a j ^^^ gb b j) (fun _ => 0)))) ∧ Below w.heap.size w wr)
  case atStart => exact ⟨0, rfl, rfl, Lib.hid (by rw [upto_zero]; exact Hown.out), HB.out⟩
  case round =>
    obtain ⟨n, hn, rfl, Hown2, hB⟩ := hrel
    have HB2 := Lib.hid hB; clear hB
    by_cases hlt : n < 16
    · have c1 : wr.cell? ⟨w.heap.size, n, none⟩ = some (U8 0) := by rw [Hown2.out.cellAt n (by omega), vals_get _ _ _ hlt, upto_old (Nat.le_refl _)]
      have f1 := Hown2.out.frozenAt n
      have c2 : wr.cell? ⟨bb, ob + n, none⟩ = some (U8 (gb b n)) := (HB2.out.cell (p := ⟨bb, ob + n, none⟩) hbb).trans (HX.out n hlt)
      have c3 : wr.cell? ⟨ab, oa + n, none⟩ = some (U8 (gb a n)) := (HB2.out.cell (p := ⟨ab, oa + n, none⟩) hab).trans (HXA.out n hlt)
      have n1 : (n : Int) < 16 := by omega
      go_upto_region 7 with fail
      refine wp_region_still_tail 11 (by kernel_rfl) (by kernel_rfl) ?_
      simp only [List.take_succ_cons, List.take_zero, List.drop_succ_cons, List.drop_zero]
      repeat (refine wpStill_step (fun K hK => ?_); go_simp; (try go_bits); refine hK _ ?_; clear hK K)
      refine wpStill_nil ?_
      go_wp2_with fail
      go_roundg (16 - (n + 1))
      case measure => omega
      case rel =>
        obtain ⟨h1, h2⟩ := Hown2.out.stored n (U8 (gb a n ^^^ gb b n))
        have e := vals_upto 16 n (fun j => gb a j ^^^ gb b j) (fun _ => 0)
        rw [e] at h1
        exact ⟨n + 1, by omega, by go_num, Lib.hid h1, HB2.out.drew.setCell (Nat.le_refl _) _⟩
    · have hn16 : n = 16 := by omega
      subst hn16
      go_wp2_with fail
      go_ret2
      have hown3 : OwnB wr w.heap.size (.slice (some ⟨w.heap.size, 0, none⟩) 16 16) (xorL a b) := by
        show World.ownsRow _ _ _ _ _ (xorL a b).length _
        rw [xorL_len]
        unfold xorL
        rw [← vals_bList]
        have e : vals 16 (upto 16 (fun j => gb a j ^^^ gb b j) (fun _ => 0)) = vals 16 fun j => gb a j ^^^ gb b j := vals_congr fun j hj => by unfold upto; rw [if_pos hj]
        rw [← e]
        exact Hown2.out
      exact ⟨_, rfl, hown3.out (by rw [xorL_len]; omega) w (Nat.le_refl _), HB2.out⟩
set_option maxRecDepth 100000 in
set_option maxHeartbeats 2000000 in
theorem rask_any (vd vc vo vh : Value) (seed chip own half : List UInt8) (w : World) (hK : KR w) (hd : Bs w w.heap.size vd seed) (hc : Bs w w.heap.size vc chip) (ho : Bs w w.heap.size vo own) (hh : Bs w w.heap.size vh half) :
    Calls Tryd.prog 8 #[vd, vc, vo, vh] w fun e w' => ∃ v', e = .returned (.tuple #[v', .int .i64 (askE seed chip own half)]) ∧ BsS w' (New w w') v' (askL seed chip own half) ∧ Below w.heap.size w w' := by
  have HD := Lib.hid hd; have HCH := Lib.hid hc; have HOW := Lib.hid ho; have HHA := Lib.hid hh; have HK := Lib.hid hK
  obtain ⟨da, dn, dc, rfl⟩ := hd.form
  obtain ⟨ca, cn, cc, rfl⟩ := hc.form
  obtain ⟨oa, on, oc, rfl⟩ := ho.form
  obtain ⟨ha, hn, hc', rfl⟩ := hh.form
  obtain rfl := Bs.lenEq hd
  obtain rfl := Bs.lenEq hc
  obtain rfl := Bs.lenEq ho
  obtain rfl := Bs.lenEq hh
  clear hK hd hc ho hh
  by_cases h : askOK seed chip own half
  · have E : Hid (askL seed chip own half = msgW seed (own ++ chip ++ half) ∧ askE seed chip own half = 0) := Lib.hid ⟨if_pos h, if_pos h⟩
    have h32 : (own ++ chip ++ half).length = 32 := by obtain ⟨_, h2, h3, h4⟩ := h; rw [List.length_append, List.length_append]; omega
    have H32 := Lib.hid h32
    have HML := Lib.hid (msgW_len seed _ h32)
    obtain ⟨h1, h2, h3, h4⟩ := h
    have t1 : ((seed.length : Int) != 16) = false := by simp; omega
    have t2 : ((chip.length : Int) != 8) = false := by simp; omega
    have t3 : ((own.length : Int) != 8) = false := by simp; omega
    have t4 : ((half.length : Int) != 16) = false := by simp; omega
    have HLS : Hid (seed.length ≤ 1000 ∧ own.length + chip.length ≤ 1000 ∧ (own ++ chip).length + half.length ≤ 1000) := Lib.hid (by rw [List.length_append]; omega)
    clear h1 h2 h3 h4 h32
    go_enter Tryd.func8, Tryd.ntmps8
    go_wp2_with (first
      | (go_at_call 28; refine (rmessage_any _ _ seed (own ++ chip ++ half) w2 (HK.out.below HB2.out HK.out.lt) (HD.out.lift HB2.out) HJ2.out HLS.out.1 H32.out).mono ?_; rintro e w3 ⟨v3, rfl, ho, hb⟩; have HO3 := Lib.hid ho; have HB3 := Lib.hid hb; clear ho hb)
      | (go_at_call 29; refine (join_any _ _ (own ++ chip) half _ _ w1 HJ1.out (HHA.out.lift HB1.out) (by have := HLS.out.2.2; omega)).mono ?_; rintro e w2 ⟨v2, rfl, ho, hb⟩; have HJ2 : Hid (Bs w2 w2.heap.size v2 (own ++ chip ++ half)) := Lib.hid (ho.bs (by rw [H32.out]; omega)); have HB2 := Lib.hid (HB1.out.trans (hb.mono HB1.out.size)); clear ho hb)
      | (go_at_call 29; refine (join_any _ _ own chip _ _ w HOW.out HCH.out (by have := HLS.out.2.1; omega)).mono ?_; rintro e w1 ⟨v1, rfl, ho, hb⟩; have HJ1 : Hid (Bs w1 w1.heap.size v1 (own ++ chip)) := Lib.hid (ho.bs (by rw [List.length_append]; have := HLS.out.2.1; omega)); have HB1 := Lib.hid hb; clear ho hb))
    go_ret2
    rw [E.out.1, E.out.2]
    exact ⟨_, rfl, OwnB.out HO3.out (by rw [HML.out]; omega) w HB2.out.size, HB2.out.trans (HB3.out.mono HB2.out.size)⟩
  · have E : Hid (askL seed chip own half = [] ∧ askE seed chip own half = 2) := Lib.hid ⟨if_neg h, if_neg h⟩
    unfold askOK at h
    by_cases h1 : seed.length = 16
    · have t1 : ((seed.length : Int) != 16) = false := by simp; omega
      by_cases h2 : chip.length = 8
      · have t2 : ((chip.length : Int) != 8) = false := by simp; omega
        by_cases h3 : own.length = 8
        · have t3 : ((own.length : Int) != 8) = false := by simp; omega
          have t4 : ((half.length : Int) != 16) = true := by simp; omega
          clear h h1 h2 h3
          go_enter Tryd.func8, Tryd.ntmps8
          go_wp2_with fail
          go_ret2
          rw [E.out.1, E.out.2]
          exact ⟨_, rfl, bs_nil _ _, Below.refl _ _⟩
        · have t3 : ((own.length : Int) != 8) = true := by simp; omega
          clear h h1 h2 h3
          go_enter Tryd.func8, Tryd.ntmps8
          go_wp2_with fail
          go_ret2
          rw [E.out.1, E.out.2]
          exact ⟨_, rfl, bs_nil _ _, Below.refl _ _⟩
      · have t2 : ((chip.length : Int) != 8) = true := by simp; omega
        clear h h1 h2
        go_enter Tryd.func8, Tryd.ntmps8
        go_wp2_with fail
        go_ret2
        rw [E.out.1, E.out.2]
        exact ⟨_, rfl, bs_nil _ _, Below.refl _ _⟩
    · have t1 : ((seed.length : Int) != 16) = true := by simp; omega
      clear h h1
      go_enter Tryd.func8, Tryd.ntmps8
      go_wp2_with fail
      go_ret2
      rw [E.out.1, E.out.2]
      exact ⟨_, rfl, bs_nil _ _, Below.refl _ _⟩
end Go.Proofs.YtjbmmdcnccclaaaDoor
/- Basic access: a message read, both sides. -/
namespace Go.Proofs.YtjbmmdcnccclaaaDoor
open Go.RowKit Go.Deep

/-- Whether a message's code is right; its 32 bytes. -/
def macOK (seed m : List UInt8) : Prop := (codeO (keyW seed 2) (m.take 32)).take 8 = m.drop 32
instance (seed m : List UInt8) : Decidable (macOK seed m) := by unfold macOK; infer_instance
def plainW (seed m : List UInt8) : List UInt8 := openO (keyW seed 1) Z16 (m.take 32)
theorem plainW_len (seed m : List UInt8) (h : m.length = 40) : (plainW seed m).length = 32 := by
  unfold plainW
  rw [openO_oP _ _ _ (m := 2) (by rw [List.length_take]; omega), oP_len]
/-- A piece out of the middle. -/
theorem BsS.mid {w : World} {S : Nat → Prop} {b off c0 c k n d : Nat} {l : List UInt8} (h : BsS w S (.slice (some ⟨b, off, none⟩) c0 c) l) (hk : k + n ≤ l.length) (hd : n ≤ d) (hd2 : d ≤ 9223372036854775807) : BsS w S (.slice (some ⟨b, off + k, none⟩) n d) ((l.drop k).take n) := by
  obtain ⟨a, c', hv, h1, h2, h3, h4⟩ := h
  obtain ⟨ha, hn, hc⟩ := Value.slice.inj hv
  subst ha
  have hl : ((l.drop k).take n).length = n := by rw [List.length_take, List.length_drop]; omega
  refine ⟨_, d, by rw [hl], by omega, hd2, by omega, fun hp => ?_⟩
  rw [hl] at hp
  obtain ⟨b', off', e, hb, hcell⟩ := h4 (by omega)
  injection e with e
  injection e with e1 e2
  subst e1 e2
  refine ⟨b, off + k, rfl, hb, fun j hj => ?_⟩
  rw [hl] at hj
  rw [Nat.add_assoc, hcell (k + j) (by omega)]
  congr 2
  unfold gb
  rw [List.getD_eq_getElem?_getD, List.getD_eq_getElem?_getD, List.getElem?_take, if_pos hj, List.getElem?_drop]
set_option maxRecDepth 100000 in
set_option maxHeartbeats 2000000 in
theorem read_any (vd vm : Value) (seed m : List UInt8) (w : World) (hK : KD w) (hd : Bs w w.heap.size vd seed) (hm : Bs w w.heap.size vm m) (hl : seed.length ≤ 1000) (h40 : m.length = 40) :
    Calls Tryd.prog 32 #[vd, vm] w fun e w' => Below w.heap.size w w' ∧ ((¬ macOK seed m ∧ e = .returned (.tuple #[.slice none 0 0, .slice none 0 0, .slice none 0 0, .int .i64 20])) ∨
      (macOK seed m ∧ ∃ A1 c1 A2 c2 A3 c3, e = .returned (.tuple #[.slice A1 8 c1, .slice A2 8 c2, .slice A3 16 c3, .int .i64 0]) ∧ BsS w' (New w w') (.slice A1 8 c1) ((plainW seed m).take 8) ∧ BsS w' (New w w') (.slice A2 8 c2) (((plainW seed m).drop 8).take 8) ∧ BsS w' (New w w') (.slice A3 16 c3) ((plainW seed m).drop 16))) := by
  have HKS := Lib.hid (keys_any vd seed w hK hd (by omega))
  have HP := Lib.hid hm
  obtain ⟨da, dn, dc, rfl⟩ := hd.form
  obtain ⟨am, cm, rfl, hcm, hcm2, _, hcell⟩ := hm
  obtain ⟨mb, mo, rfl, hmb, hcell⟩ := hcell (by omega)
  rw [h40] at hcm HP ⊢
  have HL32 : Hid ((m.take 32).length = 16 * 2) := Lib.hid (by rw [List.length_take]; omega)
  have HLP : Hid ((plainW seed m).length = 32) := Lib.hid (plainW_len seed m h40)
  have HCM : Hid (32 ≤ cm) := Lib.hid (by omega)
  have HMS : Hid (Bs w w.heap.size (.slice (some ⟨mb, mo, none⟩) 32 cm) (m.take 32)) := Lib.hid (BsS.cut HP.out (by omega) (by omega) (by omega))
  have HMT : Hid (Bs w w.heap.size (.slice (some ⟨mb, mo + 32, none⟩) 8 (cm - 32)) (m.drop 32)) := Lib.hid (by
    have h := BsS.mid (k := 32) (n := 8) (d := cm - 32) HP.out (by omega) (by omega) (by omega)
    rwa [List.take_of_length_le (by rw [List.length_drop]; omega)] at h)
  have HC8 : Hid ((((codeO (keyW seed 2) (m.take 32)).take 8).length) = 8) := Lib.hid (codeO8 _ _ (keyW_len _ _))
  have hc32 : 32 < cm := by omega
  have hc32' : (32 : Int) ≤ cm := by omega
  obtain ⟨o, ho⟩ : ∃ o, decide ((codeO (keyW seed 2) (m.take 32)).take 8 = m.drop 32) = o := ⟨_, rfl⟩
  have HO := Lib.hid ho
  clear hK hd hcell ho
  cases o with
  | false =>
    go_enter Tryd.func32, Tryd.ntmps32
    go_wp2_with (first
      | (go_at_call 33; refine (bequal_any _ _ ((codeO (keyW seed 2) (m.take 32)).take 8) (m.drop 32) _ _ w3 HS3.out (HMT.out.lift HB3w.out)).mono ?_; rintro e w4 ⟨rfl, hw4⟩; rw [HO.out, hw4]; clear hw4 w4)
      | (go_at_call 42; refine (check_good _ _ (keyW seed 2) (m.take 32) (keyW_len _ _) (by rw [HL32.out]; omega) w2 HK2.out HM2.out).mono ?_; rintro e w3 ⟨v3, rfl, hs, hb⟩; obtain ⟨A3, c3, hv3⟩ : ∃ A c, v3 = .slice A 8 c := (by obtain ⟨a, c, e, _⟩ := hs; rw [HC8.out] at e; exact ⟨a, c, e⟩); subst hv3; have HS3 := Lib.hid hs; have HB3 := Lib.hid hb; have HB3w := Lib.hid (HB2.out.trans (hb.mono HB2.out.size)); clear hs hb)
      | (go_at_call 39; refine HKS.out.mono ?_; rintro e w2 ⟨a1, c1, b1, d1, rfl, hk1, hk2, hb⟩; have HK1 : Hid (Bs w2 w2.heap.size (.slice a1 16 c1) (keyW seed 1)) := Lib.hid (BsS.keep hk1 fun g hs _ => ⟨rfl, hs.2⟩); have HK2 : Hid (Bs w2 w2.heap.size (.slice b1 16 d1) (keyW seed 2)) := Lib.hid (BsS.keep hk2 fun g hs _ => ⟨rfl, hs.2⟩); have HB2 := Lib.hid hb; have HM2 := Lib.hid (HMS.out.lift hb); clear hk1 hk2 hb))
    refine bodyPost_ret (v := .tuple #[.slice none 0 0, .slice none 0 0, .slice none 0 0, .int .i64 20]) (by simp [results, Tryd.results32, go_sem]) rfl ?_
    exact ⟨HB3w.out, .inl ⟨of_decide_eq_false HO.out, rfl⟩⟩
  | true =>
    have Hm := make16
    go_enter Tryd.func32, Tryd.ntmps32
    go_upto_region 7 with (first
      | (go_at_call 54; refine (open_good _ _ _ (keyW seed 1) Z16 (m.take 32) 2 (keyW_len _ _) Z16_len HL32.out (wz w3) (bs_later (bs_later HK1.out (fun _ h => h) HB3.out) (fun _ h => h) (zero16b w3)) (zero_z w3).bs (bs_later (HMS.out.lift HB3w.out) (fun _ h => h) (zero16b w3))).mono ?_; rintro e w7 ⟨v7, rfl, hs7, hb7⟩; have HS7 := Lib.hid hs7; have HB7 := Lib.hid (((zero16b w3).trans (hb7.mono (zero16b w3).size))); obtain ⟨A7, c7, hv7, hc7, hc7', _, hcell7⟩ := hs7; rw [show (openO (keyW seed 1) Z16 (m.take 32)).length = 32 from HLP.out] at hv7 hc7 hcell7; subst hv7; obtain ⟨g7, o7, rfl, _, _⟩ := hcell7 (by omega); clear hb7 hcell7)
      | (go_at_call 33; refine (bequal_any _ _ ((codeO (keyW seed 2) (m.take 32)).take 8) (m.drop 32) _ _ w3 HS3.out (HMT.out.lift HB3w.out)).mono ?_; rintro e w4 ⟨rfl, hw4⟩; rw [HO.out, hw4]; clear hw4 w4)
      | (go_at_call 42; refine (check_good _ _ (keyW seed 2) (m.take 32) (keyW_len _ _) (by rw [HL32.out]; omega) w2 HK2.out HM2.out).mono ?_; rintro e w3 ⟨v3, rfl, hs, hb⟩; obtain ⟨A3, c3, hv3⟩ : ∃ A c, v3 = .slice A 8 c := (by obtain ⟨a, c, e, _⟩ := hs; rw [HC8.out] at e; exact ⟨a, c, e⟩); subst hv3; have HS3 := Lib.hid hs; have HB3 := Lib.hid hb; have HB3w := Lib.hid (HB2.out.trans (hb.mono HB2.out.size)); clear hs hb)
      | (go_at_call 39; refine HKS.out.mono ?_; rintro e w2 ⟨a1, c1, b1, d1, rfl, hk1, hk2, hb⟩; have HK1 : Hid (Bs w2 w2.heap.size (.slice a1 16 c1) (keyW seed 1)) := Lib.hid (BsS.keep hk1 fun g hs _ => ⟨rfl, hs.2⟩); have HK2 : Hid (Bs w2 w2.heap.size (.slice b1 16 d1) (keyW seed 2)) := Lib.hid (BsS.keep hk2 fun g hs _ => ⟨rfl, hs.2⟩); have HB2 := Lib.hid hb; have HM2 := Lib.hid (HMS.out.lift hb); clear hk1 hk2 hb))
    have hc7a : 8 < c7 := by omega
    have hc7b : 16 < c7 := by omega
    have hc7c : (8 : Int) ≤ c7 := by omega
    have hc7d : (16 : Int) ≤ c7 := by omega
    have hc7e : ¬ c7 = 8 := by omega
    have hc7f : ¬ c7 = 16 := by omega
    go_quiet (fail)
    go_wp2_with fail
    refine bodyPost_ret (v := .tuple #[.slice (some ⟨g7, o7, none⟩) 8 c7, .slice (some ⟨g7, o7 + 8, none⟩) 8 (c7 - 8), .slice (some ⟨g7, o7 + 16, none⟩) 16 (c7 - 16), .int .i64 0]) (by simp [results, Tryd.results32, go_sem]) rfl ?_
    have hp : BsS w7 (New (wz w3) w7) (.slice (some ⟨g7, o7, none⟩) 32 c7) (plainW seed m) := HS7.out
    have hk : ∀ {v : Value} {l : List UInt8}, BsS w7 (New (wz w3) w7) v l → BsS (w7.drewN nq) (New w (w7.drewN nq)) v l := fun h => BsS.keep h fun g hs _ => ⟨rfl, Nat.le_trans HB3w.out.size (Nat.le_trans (zero16b w3).size hs.1), hs.2⟩
    refine ⟨below_drewN (HB3w.out.trans (HB7.out.mono HB3w.out.size)) nq, .inr ⟨of_decide_eq_true HO.out, _, _, _, _, _, _, rfl, hk (BsS.cut hp (by rw [HLP.out]; omega) (by omega) (by omega)), hk (BsS.mid hp (by rw [HLP.out]; omega) (by omega) (by omega)), ?_⟩⟩
    have h3 := BsS.mid (k := 16) (n := 16) (d := c7 - 16) hp (by rw [HLP.out]; omega) (by omega) (by omega)
    rw [List.take_of_length_le (by rw [List.length_drop, HLP.out]; omega)] at h3
    exact hk h3
set_option maxRecDepth 100000 in
set_option maxHeartbeats 2000000 in
theorem ropenm_any (vd vm : Value) (seed m : List UInt8) (w : World) (hK : KR w) (hd : Bs w w.heap.size vd seed) (hm : Bs w w.heap.size vm m) (hl : seed.length ≤ 1000) (h40 : m.length = 40) :
    Calls Tryd.prog 35 #[vd, vm] w fun e w' => Below w.heap.size w w' ∧ ((¬ macOK seed m ∧ e = .returned (.tuple #[.slice none 0 0, .int .i64 20])) ∨
      (macOK seed m ∧ ∃ A c, e = .returned (.tuple #[.slice A 32 c, .int .i64 0]) ∧ BsS w' (New w w') (.slice A 32 c) (plainW seed m))) := by
  have HKS := Lib.hid (rkeys_any vd seed w hK hd (by omega))
  have HP := Lib.hid hm
  obtain ⟨da, dn, dc, rfl⟩ := hd.form
  obtain ⟨am, cm, rfl, hcm, hcm2, _, hcell⟩ := hm
  obtain ⟨mb, mo, rfl, hmb, hcell⟩ := hcell (by omega)
  rw [h40] at hcm HP ⊢
  have HL32 : Hid ((m.take 32).length = 16 * 2) := Lib.hid (by rw [List.length_take]; omega)
  have HLP : Hid ((plainW seed m).length = 32) := Lib.hid (plainW_len seed m h40)
  have HCM : Hid (32 ≤ cm) := Lib.hid (by omega)
  have HMS : Hid (Bs w w.heap.size (.slice (some ⟨mb, mo, none⟩) 32 cm) (m.take 32)) := Lib.hid (BsS.cut HP.out (by omega) (by omega) (by omega))
  have HMT : Hid (Bs w w.heap.size (.slice (some ⟨mb, mo + 32, none⟩) 8 (cm - 32)) (m.drop 32)) := Lib.hid (by
    have h := BsS.mid (k := 32) (n := 8) (d := cm - 32) HP.out (by omega) (by omega) (by omega)
    rwa [List.take_of_length_le (by rw [List.length_drop]; omega)] at h)
  have HC8 : Hid ((((codeO (keyW seed 2) (m.take 32)).take 8).length) = 8) := Lib.hid (codeO8 _ _ (keyW_len _ _))
  have hc32 : 32 < cm := by omega
  have hc32' : (32 : Int) ≤ cm := by omega
  obtain ⟨o, ho⟩ : ∃ o, decide ((codeO (keyW seed 2) (m.take 32)).take 8 = m.drop 32) = o := ⟨_, rfl⟩
  have HO := Lib.hid ho
  clear hK hd hcell ho
  cases o with
  | false =>
    go_enter Tryd.func35, Tryd.ntmps35
    go_wp2_with (first
      | (go_at_call 11; refine (same_any _ _ ((codeO (keyW seed 2) (m.take 32)).take 8) (m.drop 32) _ _ w3 HS3.out (HMT.out.lift HB3w.out)).mono ?_; rintro e w4 ⟨rfl, nd, hw4⟩; rw [HO.out]; have hb4 : Below w3.heap.size w3 w4 := (by rw [hw4]; exact below_drewN (Below.refl _ _) nd); have HB4 := Lib.hid (HB3w.out.trans (hb4.mono HB3w.out.size)); have HK4 := Lib.hid (bs_later (bs_later HK1.out (fun _ h => h) HB3.out) (fun _ h => h) hb4); have HM4 := Lib.hid (HMS.out.lift HB4.out); clear hb4 hw4)
      | (go_at_call 45; refine (rcheck_good _ _ (keyW seed 2) (m.take 32) (keyW_len _ _) (by rw [HL32.out]; omega) w2 HK2.out HM2.out).mono ?_; rintro e w3 ⟨v3, rfl, hs, hb⟩; obtain ⟨A3, c3, hv3⟩ : ∃ A c, v3 = .slice A 8 c := (by obtain ⟨a, c, e, _⟩ := hs; rw [HC8.out] at e; exact ⟨a, c, e⟩); subst hv3; have HS3 := Lib.hid hs; have HB3 := Lib.hid hb; have HB3w := Lib.hid (HB2.out.trans (hb.mono HB2.out.size)); clear hs hb)
      | (go_at_call 43; refine HKS.out.mono ?_; rintro e w2 ⟨a1, c1, b1, d1, rfl, hk1, hk2, hb⟩; have HK1 : Hid (Bs w2 w2.heap.size (.slice a1 16 c1) (keyW seed 1)) := Lib.hid (BsS.keep hk1 fun g hs _ => ⟨rfl, hs.2⟩); have HK2 : Hid (Bs w2 w2.heap.size (.slice b1 16 d1) (keyW seed 2)) := Lib.hid (BsS.keep hk2 fun g hs _ => ⟨rfl, hs.2⟩); have HB2 := Lib.hid hb; have HM2 := Lib.hid (HMS.out.lift hb); clear hk1 hk2 hb))
    go_ret2
    exact ⟨HB4.out, .inl ⟨of_decide_eq_false HO.out, rfl⟩⟩
  | true =>
    go_enter Tryd.func35, Tryd.ntmps35
    go_upto_region 5 with (first
      | (go_at_call 11; refine (same_any _ _ ((codeO (keyW seed 2) (m.take 32)).take 8) (m.drop 32) _ _ w3 HS3.out (HMT.out.lift HB3w.out)).mono ?_; rintro e w4 ⟨rfl, nd, hw4⟩; rw [HO.out]; have hb4 : Below w3.heap.size w3 w4 := (by rw [hw4]; exact below_drewN (Below.refl _ _) nd); have HB4 := Lib.hid (HB3w.out.trans (hb4.mono HB3w.out.size)); have HK4 := Lib.hid (bs_later (bs_later HK1.out (fun _ h => h) HB3.out) (fun _ h => h) hb4); have HM4 := Lib.hid (HMS.out.lift HB4.out); clear hb4 hw4)
      | (go_at_call 45; refine (rcheck_good _ _ (keyW seed 2) (m.take 32) (keyW_len _ _) (by rw [HL32.out]; omega) w2 HK2.out HM2.out).mono ?_; rintro e w3 ⟨v3, rfl, hs, hb⟩; obtain ⟨A3, c3, hv3⟩ : ∃ A c, v3 = .slice A 8 c := (by obtain ⟨a, c, e, _⟩ := hs; rw [HC8.out] at e; exact ⟨a, c, e⟩); subst hv3; have HS3 := Lib.hid hs; have HB3 := Lib.hid hb; have HB3w := Lib.hid (HB2.out.trans (hb.mono HB2.out.size)); clear hs hb)
      | (go_at_call 43; refine HKS.out.mono ?_; rintro e w2 ⟨a1, c1, b1, d1, rfl, hk1, hk2, hb⟩; have HK1 : Hid (Bs w2 w2.heap.size (.slice a1 16 c1) (keyW seed 1)) := Lib.hid (BsS.keep hk1 fun g hs _ => ⟨rfl, hs.2⟩); have HK2 : Hid (Bs w2 w2.heap.size (.slice b1 16 d1) (keyW seed 2)) := Lib.hid (BsS.keep hk2 fun g hs _ => ⟨rfl, hs.2⟩); have HB2 := Lib.hid hb; have HM2 := Lib.hid (HMS.out.lift hb); clear hk1 hk2 hb))
    refine wp_region_rg 10 [some 30, some 31, some 32, some 33, some 34, some 29, some 35, some 36, some 10, some 11] [[], [], [], [2], [0, 1, 2, 3], [0, 1, 2, 3, 4], [0, 1, 2, 3, 4, 5], [0, 1, 2, 3, 4, 5], [0, 1, 2, 3, 4, 5, 6], [0, 1, 2, 3, 4, 5, 6, 7, 8]]
      (fun _ _ w1 => Below w4.heap.size w4 w1) (fun w1 w2 => Below w1.heap.size w1 w2)
      [fun v _ => v 0 = .slice a1 16 c1,
       fun v w1 => ∃ q, v 1 = .slice (some ⟨q, 0, none⟩) 16 16 ∧ BsS w1 (New w4 w1) (.slice (some ⟨q, 0, none⟩) 16 16) Z16,
       fun v _ => v 2 = .slice (some ⟨mb, mo, none⟩) 40 cm,
       fun v _ => v 3 = .slice (some ⟨mb, mo, none⟩) 32 cm,
       fun v w1 => ∃ A c, v 4 = .tuple #[.slice A 32 c, .int .i64 0] ∧ BsS w1 (New w4 w1) (.slice A 32 c) (plainW seed m),
       fun v w1 => ∃ A c, v 5 = .tuple #[.slice A 32 c, .int .i64 0] ∧ BsS w1 (New w4 w1) (.slice A 32 c) (plainW seed m),
       fun v w1 => ∃ A c, v 6 = .slice A 32 c ∧ BsS w1 (New w4 w1) (.slice A 32 c) (plainW seed m),
       fun v _ => v 7 = .int .i64 0,
       fun v w1 => ∃ A c, v 8 = .slice A 32 c ∧ BsS w1 (New w4 w1) (.slice A 32 c) (plainW seed m),
       fun v _ => v 9 = .int .i64 0]
      (by kernel_rfl) (by kernel_rfl) (fun _ => (Below.refl _ _).drew) ?st ?steps ?tail
    case st =>
      exact (.cons (fun _ _ _ _ _ _ h => h) (.cons (fun _ _ _ _ _ hr ⟨q, e, h⟩ => ⟨q, e, BsS.keep h fun g hs hl => ⟨hr.block g hl, hs.1, Nat.lt_of_lt_of_le hs.2 hr.size⟩⟩) (.cons (fun _ _ _ _ _ _ h => h) (.cons (fun _ _ _ _ _ _ h => h) (.cons (fun _ _ _ _ _ hr ⟨A, c, e, h⟩ => ⟨A, c, e, BsS.keep h fun g hs hl => ⟨hr.block g hl, hs.1, Nat.lt_of_lt_of_le hs.2 hr.size⟩⟩) (.cons (fun _ _ _ _ _ hr ⟨A, c, e, h⟩ => ⟨A, c, e, BsS.keep h fun g hs hl => ⟨hr.block g hl, hs.1, Nat.lt_of_lt_of_le hs.2 hr.size⟩⟩) (.cons (fun _ _ _ _ _ hr ⟨A, c, e, h⟩ => ⟨A, c, e, BsS.keep h fun g hs hl => ⟨hr.block g hl, hs.1, Nat.lt_of_lt_of_le hs.2 hr.size⟩⟩) (.cons (fun _ _ _ _ _ _ h => h) (.cons (fun _ _ _ _ _ hr ⟨A, c, e, h⟩ => ⟨A, c, e, BsS.keep h fun g hs hl => ⟨hr.block g hl, hs.1, Nat.lt_of_lt_of_le hs.2 hr.size⟩⟩) (.cons (fun _ _ _ _ _ _ h => h) .nil))))))))))
    case steps =>
      simp only [List.take_succ_cons, List.take_zero]
      refine (.cons ?_ (.cons ?_ (.cons ?_ (.cons ?_ (.cons ?_ (.cons ?_ (.cons ?_ (.cons ?_ (.cons ?_ (.cons ?_ .nil))))))))))
      all_goals (intro L v w1 hJ hL hA hF K hK; simp only [fillRG, Act.put, Nat.zero_add, Nat.reduceAdd, List.setIfInBounds_toArray, List.set_cons_zero, List.set_cons_succ] at hK ⊢)
      · go_simp
        refine hK _ _ hJ (Below.refl _ _) ?_
        first | exact rfl | exact val_mod _
      · have Hm := make16
        go_simp
        exact hK _ _ (hJ.trans ((zero16b w1).mono hJ.size)) (zero16b w1) ⟨_, rfl, BsS.keep (zero_z w1) fun g hs _ => ⟨rfl, Nat.le_trans hJ.size hs.1, hs.2⟩⟩
      · go_simp
        refine hK _ _ hJ (Below.refl _ _) ?_
        first | exact rfl | exact val_mod _
      · have e2 : v 2 = .slice (some ⟨mb, mo, none⟩) 40 cm := hF 2 (hA 2 (by simp))
        have h32 : 32 ≤ cm := HCM.out
        simp only [e2] at hK
        go_simp
        refine hK _ _ hJ (Below.refl _ _) ?_
        first | exact rfl | exact val_mod _
      · have e0 : v 0 = .slice a1 16 c1 := hF 0 (hA 0 (by simp))
        have e3 : v 3 = .slice (some ⟨mb, mo, none⟩) 32 cm := hF 3 (hA 3 (by simp))
        simp only [e0, e3] at hK
        obtain ⟨q1, e1, hz1⟩ : ∃ q, v 1 = .slice (some ⟨q, 0, none⟩) 16 16 ∧ BsS w1 (New w4 w1) (.slice (some ⟨q, 0, none⟩) 16 16) Z16 := hF 1 (hA 1 (by simp))
        have HZ := Lib.hid (show Bs w1 w1.heap.size _ _ from BsS.keep hz1 fun g hs _ => ⟨rfl, hs.2⟩)
        have HE := Lib.hid (bs_later HK4.out (fun _ h => h) hJ); have HP := Lib.hid (bs_later HM4.out (fun _ h => h) hJ)
        clear hz1
        simp only [e1] at hK
        go_simp
        refine (refOpen_good _ _ _ (keyW seed 1) Z16 (m.take 32) 2 (keyW_len _ _) Z16_len HL32.out w1 HE.out HZ.out HP.out).mono ?_
        rintro e w7 ⟨v7, rfl, ho7, hb7⟩
        obtain ⟨A7, c7, hv7⟩ : ∃ A c, v7 = .slice A 32 c := (by obtain ⟨a, c, e, _⟩ := ho7; have h := HLP.out; unfold plainW at h; rw [h] at e; exact ⟨a, c, e⟩)
        subst hv7
        exact hK _ _ (hJ.trans (hb7.mono hJ.size)) hb7 ⟨A7, c7, rfl, BsS.keep ho7 fun g hs _ => ⟨rfl, Nat.le_trans hJ.size hs.1, hs.2⟩⟩
      · obtain ⟨A, c, e4, hh⟩ : ∃ A c, v 4 = .tuple #[.slice A 32 c, .int .i64 0] ∧ BsS w1 (New w4 w1) (.slice A 32 c) (plainW seed m) := hF 4 (hA 4 (by simp))
        simp only [e4] at hK
        go_simp
        exact hK _ _ hJ (Below.refl _ _) ⟨A, c, rfl, hh⟩
      · obtain ⟨A, c, e5, hh⟩ : ∃ A c, v 5 = .tuple #[.slice A 32 c, .int .i64 0] ∧ BsS w1 (New w4 w1) (.slice A 32 c) (plainW seed m) := hF 5 (hA 5 (by simp))
        simp only [e5] at hK
        go_simp
        exact hK _ _ hJ (Below.refl _ _) ⟨A, c, rfl, hh⟩
      · obtain ⟨A, c, e5, hh⟩ : ∃ A c, v 5 = .tuple #[.slice A 32 c, .int .i64 0] ∧ BsS w1 (New w4 w1) (.slice A 32 c) (plainW seed m) := hF 5 (hA 5 (by simp))
        simp only [e5] at hK
        go_simp
        exact hK _ _ hJ (Below.refl _ _) rfl
      · obtain ⟨A, c, e6, hh⟩ : ∃ A c, v 6 = .slice A 32 c ∧ BsS w1 (New w4 w1) (.slice A 32 c) (plainW seed m) := hF 6 (hA 6 (by simp))
        simp only [e6] at hK
        go_simp
        exact hK _ _ hJ (Below.refl _ _) ⟨A, c, rfl, hh⟩
      · have e7 : v 7 = .int .i64 0 := hF 7 (hA 7 (by simp))
        simp only [e7] at hK
        go_simp
        refine hK _ _ hJ (Below.refl _ _) ?_
        first | exact rfl | exact val_mod _
    case tail =>
      intro v w1 hJ hF
      have e0 : v 0 = .slice a1 16 c1 := hF 0 (by simp)
      have e2 : v 2 = .slice (some ⟨mb, mo, none⟩) 40 cm := hF 2 (by simp)
      have e3 : v 3 = .slice (some ⟨mb, mo, none⟩) 32 cm := hF 3 (by simp)
      have e7 : v 7 = .int .i64 0 := hF 7 (by simp)
      have e9 : v 9 = .int .i64 0 := hF 9 (by simp)
      obtain ⟨A7, c7, e8, ho7⟩ : ∃ A c, v 8 = .slice A 32 c ∧ BsS w1 (New w4 w1) (.slice A 32 c) (plainW seed m) := hF 8 (by simp)
      simp only [List.drop_succ_cons, List.drop_zero, fillRG, Act.put, Nat.zero_add, Nat.reduceAdd, List.setIfInBounds_toArray, List.set_cons_zero, List.set_cons_succ]
      have HO7 := Lib.hid ho7; have HB7 := Lib.hid hJ
      simp only [e8]
      clear hJ hF ho7
      go_wp2_with fail
      go_ret2
      exact ⟨HB4.out.trans (HB7.out.mono HB4.out.size), .inr ⟨of_decide_eq_true HO.out, A7, c7, rfl, BsS.keep HO7.out fun g hs _ => ⟨rfl, Nat.le_trans HB4.out.size hs.1, hs.2⟩⟩⟩
end Go.Proofs.YtjbmmdcnccclaaaDoor
