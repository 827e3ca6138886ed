/- Layer 14, plain: infos are read as they were written, and written as they were read. -/
import Derived.Test.YtdpiehhblflacaaDoorQObjR
import Derived.Test.YtdpiehhblflacaaDoorInfoP
import Derived.Test.YtdpiehhblflacaaDoorInfoR
import Derived.Test.YtdpiehhblflacaaDoorCodes
import Derived.Test.YtdpiehhblflacaaDoorStrict
import Derived.Test.YtdpiehhblflacaaDoorQLawEa
import Derived.Test.YtdpiehhblflacaaDoorQInfosM
import Derived.Test.YtdpiehhblflacaaDoorQSpoil
import Derived.Test.YtdpiehhblflacaaDoorQInfSame
import Derived.Test.YtdpiehhblflacaaDoorInfo
import Derived.Test.YtdpiehhblflacaaDoorInfR
namespace Go.Proofs.YtdpiehhblflacaaDoor
open Go.RowKit

theorem chk_mk {t : Int} {v : List UInt8} {k r : Ns} {d : Nat} (tv : tagV t = true) (h1 : tagC t = false → k = .nil) (h2 : tagC t = true → v = []) (hd : d ≤ 8) (hk : k.chk (d + 1) = 0) (hr : r.chk d = 0) : (Ns.cons t v k r).chk d = 0 := by
  rw [Ns.chk, if_neg (by rw [tv]; simp), if_neg ?_, if_neg (by omega), if_pos hk]
  · exact hr
  · rintro (⟨e, h⟩ | ⟨e, h⟩)
    · rw [h1 e] at h; simp [Ns.len] at h
    · rw [h2 e] at h; simp at h
theorem prim_mk {t : Int} {v : List UInt8} {r : Ns} {d : Nat} (tv : tagV t = true) (tc : tagC t = false) (hd : d ≤ 8) (hr : r.chk d = 0) : (Ns.cons t v .nil r).chk d = 0 :=
  chk_mk tv (fun _ => rfl) (fun e => by rw [tc] at e; cases e) hd rfl hr
theorem more_chk (x : Inf) : (moreN x).chk 3 = 0 := by
  have n : ∀ n r, Ns.chk r 3 = 0 → (numN n r).chk 3 = 0 := fun n r h => prim_mk rfl rfl (by omega) h
  unfold moreN
  (repeat' split)
  · exact n _ _ rfl
  · exact prim_mk rfl rfl (by omega) (n _ _ rfl)
  · rfl
theorem set_chk (l : List Inf) : (setK l).chk 2 = 0 := by
  induction l with
  | nil => rfl
  | cons x r ih => exact chk_mk rfl (fun e => by cases e) (fun _ => rfl) (by omega) (prim_mk rfl rfl (by omega) (prim_mk rfl rfl (by omega) (more_chk x))) ih
theorem top_chk (l : List Inf) : (Ns.cons 49 [] (setK l) .nil).chk 1 = 0 := chk_mk rfl (fun e => by cases e) (fun _ => rfl) (by omega) (set_chk l) rfl
theorem enc_more (x : Inf) : (moreN x).enc.length ≤ 28 := by
  have n : ∀ z r, (numN z r).enc.length ≤ 12 + r.enc.length := fun z r => by have := enc_len 2 [ofI z] .nil r; rw [show tagC 2 = false from rfl] at this; simpa [numN] using this
  unfold moreN
  (repeat' split)
  · have := n x.r .nil; simp [Ns.enc] at this ⊢; omega
  · have h := enc_len 4 (fourB x.k) .nil (numN x.d .nil)
    have h2 := n x.d .nil
    rw [show tagC 4 = false from rfl] at h
    simp [Ns.enc, fourB_len] at h h2 ⊢
    omega
  · simp [Ns.enc]
theorem enc_kids (x : Inf) : (kidsI x).enc.length ≤ 61 := by
  have h := enc_len 6 (identB x.p) .nil (numN x.v (moreN x))
  have h2 := enc_len 2 [ofI x.v] .nil (moreN x)
  have h3 := enc_more x
  rw [show tagC 6 = false from rfl] at h
  rw [show tagC 2 = false from rfl] at h2
  simp only [identB_len, List.length_cons, List.length_nil, Bool.false_eq_true, if_false] at h h2
  show (Ns.cons 6 (identB x.p) .nil (numN x.v (moreN x))).enc.length ≤ 61
  have e : numN x.v (moreN x) = .cons 2 [ofI x.v] .nil (moreN x) := rfl
  rw [e] at h ⊢
  omega
theorem enc_set (l : List Inf) : (setK l).enc.length ≤ 72 * l.length := by
  induction l with
  | nil => simp [setK, Ns.enc]
  | cons x r ih =>
    have h := enc_len 48 [] (kidsI x) (setK r)
    have h2 := enc_kids x
    rw [show tagC 48 = true from rfl] at h
    simp only [if_true] at h
    simp only [setK, List.length_cons]
    omega
/-- Valid infos are encoded. -/
theorem encI_ok {l : List Inf} (h : validP l = 0) : encI l = .ok (Ns.cons 49 [] (setK l) .nil).enc ∧ (Ns.cons 49 [] (setK l) .nil).enc.length ≤ 4096 ∧ (Ns.cons 49 [] (setK l) .nil).all ≤ 256 := by
  have h16 := valid_len h
  have h1 := enc_set l
  have h2 := enc_len 49 [] (setK l) .nil
  rw [show tagC 49 = true from rfl] at h2
  simp only [if_true, show (Ns.nil).enc.length = 0 from rfl] at h2
  have h3 := setK_all l
  have ha : (Ns.cons 49 [] (setK l) .nil).all ≤ 256 := by simp only [Ns.all]; omega
  refine ⟨?_, by omega, ha⟩
  unfold encI
  rw [if_pos h]
  unfold encP
  rw [if_neg (by rw [top_chk]; simp), if_neg (by omega), if_neg (by omega)]
theorem numV_byte {z : Int} (h0 : 0 ≤ z) (h1 : z ≤ 255) : numV [ofI z] = z := by rw [numV_one, bv_in h0 (by omega)]
theorem byte_numV {v : List UInt8} (h : v.length = 1) : [ofI (numV v)] = v ∧ 0 ≤ numV v ∧ numV v ≤ 255 := by
  match v, h with
  | [b], _ =>
    rw [numV_one]
    exact ⟨by rw [ofI_bv], bv_nn b, by have := bv_lt b; omega⟩
theorem numV_fourB {k : Int} (h0 : 0 ≤ k) (h1 : k < 4294967296) : numV (fourB k) = k := by
  simp only [numV, fourB, List.foldl_cons, List.foldl_nil, bv_ofI]
  omega
theorem fourB_numV {v : List UInt8} (h : v.length = 4) : fourB (numV v) = v := by
  match v, h with
  | [a, b, c, d], _ =>
    have ha := bv_lt a; have hb := bv_lt b; have hc := bv_lt c; have hd := bv_lt d
    have na := bv_nn a; have nb := bv_nn b; have nc := bv_nn c; have nd := bv_nn d
    have e : numV [a, b, c, d] = 16777216 * bv a + 65536 * bv b + 256 * bv c + bv d := by
      show 256 * (256 * (256 * (256 * 0 + bv a) + bv b) + bv c) + bv d = _
      omega
    unfold fourB
    rw [e]
    have q : ∀ (z : Int) (x : UInt8), z % 256 = bv x → ofI z = x := fun z x h => by rw [← ofI_bv x, ← h, ofI_mod]
    rw [q _ a (by omega), q _ b (by omega), q _ c (by omega), q _ d (by omega)]
theorem prot_ident {p : Int} (h : 2 ≤ p ∧ p ≤ 6) : protP (identB p) = p := by
  obtain rfl | rfl | rfl | rfl | rfl : p = 2 ∨ p = 3 ∨ p = 4 ∨ p = 5 ∨ p = 6 := by omega
  all_goals decide
theorem prot_inv {v : List UInt8} (h : ¬ protP v = 0) : v = identB (protP v) ∧ 2 ≤ protP v ∧ protP v ≤ 6 := by
  unfold protP at h ⊢
  (repeat' split)
  all_goals first
    | exact ⟨by assumption, by decide, by decide⟩
    | simp_all
theorem Ns.nil_of {k : Ns} (h : k.len = 0) : k = .nil := by
  cases k with
  | nil => rfl
  | cons _ _ _ _ => simp [Ns.len] at h
theorem chkB_inv {p v r k d : Int} {mb cb eb : Bool} (h : chkB p v r k d mb cb eb = 0) : (2 ≤ p ∧ p ≤ 6) ∧ (1 ≤ v ∧ v ≤ 255) ∧ (0 ≤ r ∧ r ≤ if mb = true then 31 else 0) ∧ (0 ≤ d ∧ d ≤ if cb = true then 255 else 0) ∧ ¬ (cb = true ∧ eb = false ∨ cb = false ∧ ¬ k = 0) := by
  unfold chkB at h
  obtain ⟨M, hM⟩ : ∃ M : Int, (if mb = true then 31 else 0) = M := ⟨_, rfl⟩
  obtain ⟨C, hC⟩ : ∃ C : Int, (if cb = true then 255 else 0) = C := ⟨_, rfl⟩
  rw [hM, hC] at h
  rw [hM, hC]
  by_cases h1 : 2 ≤ p ∧ p ≤ 6
  · rw [if_neg (fun e => e h1)] at h
    by_cases h2 : v < 1 ∨ 255 < v
    · rw [if_pos h2] at h; cases h
    · rw [if_neg h2] at h
      by_cases h3 : r < 0 ∨ M < r
      · rw [if_pos h3] at h; cases h
      · rw [if_neg h3] at h
        by_cases h4 : d < 0 ∨ C < d
        · rw [if_pos h4] at h; cases h
        · rw [if_neg h4] at h
          by_cases h5 : cb = true ∧ eb = false ∨ cb = false ∧ ¬ k = 0
          · rw [if_pos h5] at h; cases h
          · exact ⟨h1, by omega, by omega, by omega, h5⟩
  · rw [if_pos h1] at h; cases h
theorem chk_inv {p v r k d : Int} (h : chkI ⟨p, v, r, k, d⟩ = 0) : (2 ≤ p ∧ p ≤ 6) ∧ (1 ≤ v ∧ v ≤ 255) ∧ (0 ≤ r ∧ (p = 2 ∨ p = 3 → r ≤ 31) ∧ (¬ (p = 2 ∨ p = 3) → r = 0)) ∧ (0 ≤ d ∧ (p = 4 → d ≤ 255) ∧ (¬ p = 4 → d = 0 ∧ k = 0)) ∧ (p = 4 → 0 < k ∧ k < 2147483579) := by
  obtain ⟨h1, h2, h3, h4, h5⟩ := chkB_inv (show chkB p v r k d (decide (p = 2) || decide (p = 3)) (p == 4) (elemP k) = 0 from h)
  refine ⟨h1, h2, ⟨h3.1, fun hm => ?_, fun hm => ?_⟩, ⟨h4.1, fun hp => ?_, fun hp => ?_⟩, fun hp => ?_⟩
  · have e : (decide (p = 2) || decide (p = 3)) = true := by simpa using hm
    rw [e, if_pos rfl] at h3; exact h3.2
  · have e : (decide (p = 2) || decide (p = 3)) = false := by simpa using hm
    rw [e, if_neg (by simp)] at h3; omega
  · subst hp
    simpa using h4.2
  · have e : (p == 4) = false := by simp [hp]
    rw [e] at h4 h5
    rw [if_neg (by simp)] at h4
    exact ⟨by omega, Decidable.not_not.1 fun hk => h5 (.inr ⟨rfl, hk⟩)⟩
  · subst hp
    have hk : elemP k = true := by
      cases e : elemP k with
      | true => rfl
      | false => exact absurd (.inl ⟨rfl, e⟩) h5
    unfold elemP at hk
    simp only [Bool.and_eq_true, decide_eq_true_eq] at hk
    exact hk.1.1
theorem info_back {x : Inf} (h : chkI x = 0) : infoP 48 (kidsI x) = some x := by
  obtain ⟨p, v, r, k, d⟩ := x
  obtain ⟨hp, hv, hr, hd, hk⟩ := chk_inv h
  show infoP 48 (.cons 6 (identB p) .nil (numN v (moreN ⟨p, v, r, k, d⟩))) = some ⟨p, v, r, k, d⟩
  simp only [infoP, numN, not_true_eq_false, if_false, if_true, prot_ident hp]
  rw [fieldsP.eq_def]
  simp only []
  rw [if_neg (by omega)]
  by_cases hm : p = 2 ∨ p = 3
  · have h4 : ¬ p = 4 := by omega
    rw [if_pos hm]
    simp only [moreN, if_pos hm, numN]
    rw [if_pos ⟨trivial, rfl, trivial, rfl⟩, numV_byte (by omega) (by omega), numV_byte (by omega) (by omega), (hd.2.2 h4).1, (hd.2.2 h4).2]
  · rw [if_neg hm]
    have hr0 := hr.2.2 hm
    by_cases h4 : p = 4
    · rw [if_pos h4]
      simp only [moreN, if_neg hm, if_pos h4, numN]
      rw [if_pos ⟨trivial, rfl, trivial, rfl, trivial, rfl⟩, numV_byte (by omega) (by omega), numV_byte (by omega) (by omega), numV_fourB (by omega) (by omega), hr0]
    · rw [if_neg h4]
      simp only [moreN, if_neg hm, if_neg h4]
      rw [if_pos ⟨trivial, rfl⟩, numV_byte (by omega) (by omega), hr0, (hd.2.2 h4).1, (hd.2.2 h4).2]
theorem infos_back : ∀ (l : List Inf), (∀ x ∈ l, chkI x = 0) → infosP (setK l) = some l := by
  intro l
  induction l with
  | nil => intro _; rfl
  | cons x r ih =>
    intro h
    simp only [setK, infosP, info_back (h x (by simp)), ih fun y hy => h y (by simp [hy])]
theorem valid_all : ∀ (l : List Inf) (q : Option Inf), validF q l = 0 → ∀ x ∈ l, chkI x = 0 := by
  intro l
  induction l with
  | nil => intro _ _ x hx; simp at hx
  | cons y r ih =>
    intro q h x hx
    obtain ⟨h1, h2⟩ := validF_cons h
    rcases List.mem_cons.1 hx with rfl | hx
    · exact h1
    · exact ih _ h2 x hx
/-- INFOS ARE READ AS THEY WERE WRITTEN. -/
theorem infos_returns {l : List Inf} (h : validP l = 0) : ∃ b, encI l = .ok b ∧ decI b = .ok l ∧ b.length ≤ 4096 := by
  obtain ⟨h1, h2, h3⟩ := encI_ok h
  refine ⟨_, h1, ?_, h2⟩
  have hp := codes_parseP true _ _ (enc_codes true (Ns.cons 49 [] (setK l) .nil) (by omega)) (top_chk l) h3 h2
  have hv : validF none l = 0 := by
    have h9 := h
    unfold validP at h9
    split at h9
    · cases h9
    · exact h9
  unfold decI
  rw [hp]
  simp only [if_true, infos_back l (valid_all l none hv), if_pos h]
theorem info_inv {t : Int} {K : Ns} {x : Inf} (h : infoP t K = some x) (hk : K.prims) : t = 48 ∧ K = kidsI x := by
  unfold infoP at h
  split at h
  · cases h
  · rename_i ht
    refine ⟨by omega, ?_⟩
    split at h
    · rename_i t0 v0 k0 t1 v1 k1 r
      split at h
      · rename_i h6
        subst h6
        obtain ⟨g0, g1, gr⟩ := hk
        have e0 : k0 = .nil := Ns.nil_of (g0 (by omega))
        subst e0
        rw [fieldsP.eq_def] at h
        simp only [] at h
        split at h
        · cases h
        · rename_i hp
          obtain ⟨hv, hp2, hp6⟩ := prot_inv hp
          obtain ⟨p, hpp⟩ : ∃ p, protP v0 = p := ⟨_, rfl⟩
          rw [hpp] at h hv hp2 hp6
          subst hv
          split at h
          · rename_i hm
            split at h
            · rename_i t2 v2 k2
              split at h
              · rename_i hc
                obtain ⟨rfl, c1, rfl, c2⟩ := hc
                injection h with h
                subst h
                have e1 : k1 = .nil := Ns.nil_of (g1 (by omega))
                have e2 : k2 = .nil := Ns.nil_of (gr.1 (by omega))
                subst e1 e2
                simp only [kidsI, moreN, if_pos hm, numN, (byte_numV c1).1, (byte_numV c2).1]
              · cases h
            · cases h
          · rename_i hm
            split at h
            · rename_i h4
              split at h
              · rename_i t2 v2 k2 t3 v3 k3
                split at h
                · rename_i hc
                  obtain ⟨rfl, c1, rfl, c2, rfl, c3⟩ := hc
                  injection h with h
                  subst h
                  have e1 : k1 = .nil := Ns.nil_of (g1 (by omega))
                  have e2 : k2 = .nil := Ns.nil_of (gr.1 (by omega))
                  have e3 : k3 = .nil := Ns.nil_of (gr.2.1 (by omega))
                  subst e1 e2 e3
                  simp only [kidsI, moreN, if_neg hm, if_pos h4, numN, (byte_numV c1).1, fourB_numV c2, (byte_numV c3).1]
                · cases h
              · cases h
            · rename_i h4
              split at h
              · split at h
                · rename_i hc
                  obtain ⟨rfl, c1⟩ := hc
                  injection h with h
                  subst h
                  have e1 : k1 = .nil := Ns.nil_of (g1 (by omega))
                  subst e1
                  simp only [kidsI, moreN, if_neg hm, if_neg h4, numN, (byte_numV c1).1]
                · cases h
              · cases h
      · cases h
    · cases h
theorem set_inv : ∀ (K : Ns) (d : Nat) (l : List Inf), K.chk d = 0 → infosP K = some l → K = setK l := by
  intro K
  induction K with
  | nil =>
    intro d l _ h
    injection h with h
    subst h
    rfl
  | cons t v k r _ ih =>
    intro d l hc h
    obtain ⟨_, _, c2, _, c4, c5⟩ := chk_cons hc
    unfold infosP at h
    split at h
    · cases h
    · rename_i x hx
      split at h
      · cases h
      · rename_i m hm
        injection h with h
        subst h
        obtain ⟨rfl, rfl⟩ := info_inv hx (prims_chk k _ c4)
        have e := c2 rfl
        subst e
        rw [ih d m c5 hm]
        rfl
/-- INFOS ARE WRITTEN AS THEY WERE READ. -/
theorem infos_written {c : List UInt8} {n : List Inf} (h : decI c = .ok n) : encI n = .ok c := by
  unfold decI at h
  split at h
  · cases h
  · rename_i t v k hp
    split at h
    · rename_i ht
      subst ht
      split at h
      · cases h
      · rename_i l hl
        split at h
        · rename_i hv
          injection h with h
          subst h
          have he := (strict_parse hp).1
          have hc : (Ns.cons 49 v k .nil).chk 1 = 0 := by
            have h9 := he
            unfold encP at h9
            split at h9
            · cases h9
            · omega
          obtain ⟨_, _, c2, _, c4, _⟩ := chk_cons hc
          have e := c2 rfl
          subst e
          have ek := set_inv k _ l c4 hl
          rw [ek] at he
          unfold encI
          rw [if_pos hv]
          exact he
        · cases h
    · cases h
  · cases h
end Go.Proofs.YtdpiehhblflacaaDoor
/- Layer 14: SecurityinfoReturns: infos are read as they were written, and written as they were read. -/
namespace Go.Proofs.YtdpiehhblflacaaDoor
open Go.RowKit Go.Deep

/-- What stands beside the dice. -/
def BaseI (w : World) (n : Nat) (wx : World) : Prop := Die (w.heap.size + 1) wx w.heap.size n ∧ Below w.heap.size w wx
theorem BaseI.dice {w wx wy : World} {n : Nat} (h : BaseI w n wx) (hd : DiePost (w.heap.size + 1) wx w.heap.size n wy) : BaseI w n wy :=
  ⟨hd.1, h.2.grown hd.2 h.2.size (fun k e => by injection e with e; omega)⟩
theorem BaseI.on {w wx wy : World} {n : Nat} (h : BaseI w n wx) (hb : Below wx.heap.size wx wy) : BaseI w n wy :=
  ⟨h.1.below (hb.mono h.1.le), h.2.trans (hb.mono h.2.size)⟩
theorem BaseI.lt {w wx : World} {n : Nat} (h : BaseI w n wx) : w.heap.size < wx.heap.size := h.1.le
theorem BaseI.draw {w wx : World} {n : Nat} (h : BaseI w n wx) (k : Nat) : BaseI w n (wx.drewN k) := h.on (below_drewN (Below.refl _ _) k)
theorem BaseI.tab {w wx : World} {n : Nat} (h : BaseI w n wx) (hT : TabE w) : TabE wx := hT.below h.2 hT.lt
/-- Away from the dice. -/
abbrev OffD (p : Nat) (w : World) : Nat → Prop := fun b => b < w.heap.size ∧ b ≠ p
theorem InfS.on {w w' : World} {p : Nat} {v : Value} {l : List Inf} (h : InfS w (OffD p w) v l) (hb : Below w.heap.size w w') : InfS w' (OffD p w') v l :=
  h.keep fun b hs hl => ⟨hb.block b hl, Nat.lt_of_lt_of_le hs.1 hb.size, hs.2⟩
theorem BsS.onI {w w' : World} {p : Nat} {v : Value} {l : List UInt8} (h : BsS w (OffD p w) v l) (hb : Below w.heap.size w w') : BsS w' (OffD p w') v l :=
  h.keep fun b hs hl => ⟨hb.block b hl, Nat.lt_of_lt_of_le hs.1 hb.size, hs.2⟩
theorem InfS.diceI {B n : Nat} {w w' : World} {p : Nat} {v : Value} {l : List Inf} (h : InfS w (OffD p w) v l) (hd : DiePost B w p n w') : InfS w' (OffD p w') v l :=
  h.keep fun b hs hl => ⟨hd.2.block b hl (by intro e; injection e with e; exact hs.2 e), Nat.lt_of_lt_of_le hs.1 hd.2.size, hs.2⟩
theorem BsS.diceI {B n : Nat} {w w' : World} {p : Nat} {v : Value} {l : List UInt8} (h : BsS w (OffD p w) v l) (hd : DiePost B w p n w') : BsS w' (OffD p w') v l :=
  h.keep fun b hs hl => ⟨hd.2.block b hl (by intro e; injection e with e; exact hs.2 e), Nat.lt_of_lt_of_le hs.1 hd.2.size, hs.2⟩
theorem InfS.madeI {w w' : World} {p : Nat} {v : Value} {l : List Inf} (h : InfS w' (New w w') v l) (hp : p < w.heap.size) : InfS w' (OffD p w') v l :=
  h.keep fun b hs hl => ⟨rfl, hl, fun e => by have := hs.1; omega⟩
theorem BsS.madeI {w w' : World} {p : Nat} {v : Value} {l : List UInt8} (h : BsS w' (New w w') v l) (hp : p < w.heap.size) : BsS w' (OffD p w') v l :=
  h.keep fun b hs hl => ⟨rfl, hl, fun e => by have := hs.1; omega⟩
theorem BsS.bsI {w : World} {p : Nat} {v : Value} {l : List UInt8} (h : BsS w (OffD p w) v l) : Bs w w.heap.size v l := h.keep fun _ hs _ => ⟨rfl, hs.1⟩
theorem decI_err {b : List UInt8} {er : Int} (h : decI b = .error er) : er ≠ 0 := by
  unfold decI at h
  split at h
  · rename_i hp
    injection h with h
    subst h
    exact parseP_err0 hp
  · split at h
    · split at h
      · injection h with h; omega
      · split at h
        · cases h
        · rename_i hv
          injection h with h
          rw [← h]; exact hv
    · injection h with h; omega
  · injection h with h; omega
theorem InfsOut.err {er : Int} {w : World} {e : Ending} {w' : World} (h : InfsOut (.error er) w e w') : ∃ a c, e = .returned (.tuple #[.slice a 0 c, .int .i64 er]) ∧ Below w.heap.size w w' := by
  obtain ⟨v, h1, h2, h3⟩ := h
  obtain ⟨a, c, rfl⟩ := h2.form
  exact ⟨a, c, h1, h3⟩
set_option maxRecDepth 100000 in
set_option maxHeartbeats 4000000 in
theorem securityinfoReturns_law (v : Value) (n : Nat) (w : World) (hT : TabE w) (hv : IntsS w (· < w.heap.size) v n) : Calls Tryd.prog 5 #[v] w fun e w' => e = .returned (.bool true) ∧ Below w.heap.size w w' := by
  have HL := Lib.hid (light_any _ v n w hv)
  have HR := Lib.hid (roll_any v n w hv)
  have HT := Lib.hid hT
  obtain ⟨va, vc, rfl⟩ := hv.form
  clear hv hT
  by_cases hn : (n : Int) ≤ 400
  · have hn1 : decide ((n : Int) ≤ 400) = true := decide_eq_true hn
    rw [hn1] at HL
    clear hn hn1
    go_enter Tryd.func5, Tryd.ntmps5
    go_upto_region 10 with (first
      | (go_at_call 22; refine (spoil_any _ _ n bb _ _ HB7.out (by have := HBL.out; omega) B7.out.1).mono ?_; rintro e w8 ⟨v8, cc, rfl, h8, hl8, hd⟩; obtain ⟨a8, c8, rfl⟩ := h8.form2; have HC8 := Lib.hid (h8.madeI B7.out.lt); have B8 := Lib.hid (B7.out.dice hd); have HCL : Hid (cc.length ≤ 4097) := (by have := HBL.out; show cc.length ≤ 4097; omega); clear hd h8 hl8)
      | (go_at_call 16; refine (isame_any _ _ _ _ _ _ _ HI6.out HM6.out).mono ?_; rintro e w7 ⟨rfl, nd, hw7⟩; have hb7 : Below w6.heap.size w6 w7 := (by rw [hw7]; exact below_drewN (Below.refl _ _) nd); have B7 := Lib.hid (B6.out.on hb7); have HB7 := Lib.hid (HB6.out.onI hb7); clear hw7 hb7; rw [dec_self])
      | (go_at_call 12; refine (awakeI_any _ (B5.out.tab HT.out)).mono ?_; rintro e w6 ⟨rfl, hb⟩; have HI6 := Lib.hid (HI5.out.on hb); have HB6 := Lib.hid (HB5.out.onI hb); have HM6 := Lib.hid (HM5.out.on hb); have B6 := Lib.hid (B5.out.on hb); clear hb)
      | (go_at_call 10; refine (idecode_any bb _ _ (B4.out.tab HT.out) HB4.out.bsI).mono ?_; rintro e w5 h5; rw [HDE.out] at h5; obtain ⟨a5, c5, rfl, h5, hb⟩ := h5.got; have HI5 := Lib.hid (HI4.out.on hb); have HB5 := Lib.hid (HB4.out.onI hb); have HM5 := Lib.hid (h5.madeI B4.out.lt); have B5 := Lib.hid (B4.out.on hb); clear hb h5)
      | (go_at_call 8; refine (iencode_any l _ _ _ (B3.out.tab HT.out) HI3.out).mono ?_; rintro e w4 h4; rw [HEN.out] at h4; obtain ⟨a4, c4, rfl, h4, hb⟩ := h4.got; have HI4 := Lib.hid (HI3.out.on hb); have HB4 := Lib.hid (h4.madeI B3.out.lt); have B4 := Lib.hid (B3.out.on hb); clear hb h4)
      | (go_at_call 19; refine (infos_any _ _ n _ B1.out.1).mono ?_; rintro e w3 ⟨v3, rfl, l, hi, hl, hok, hd⟩; obtain ⟨bb, hen, hde, hbl⟩ := infos_returns hok; obtain ⟨a3, c3, rfl⟩ := hi.form; have HEN := Lib.hid hen; have HDE := Lib.hid hde; have HBL := Lib.hid hbl; have HI3 := Lib.hid (hi.madeI B1.out.lt); have B3 := Lib.hid (B1.out.dice hd); clear hi hl hok hd hen hde hbl)
      | (go_at_call 17; refine HL.out.mono ?_; rintro e w' ⟨rfl, hw'⟩; rw [hw']; clear hw' w')
      | (go_at_call 18; refine HR.out.mono ?_; rintro e w1 ⟨rfl, hd, hb⟩; have B1 : Hid (BaseI w n w1) := ⟨hd, hb⟩; clear hd hb))
    cases hrd : decI cc with
    | error er =>
      have HRD := Lib.hid hrd
      have her := decI_err hrd
      have her' : (er != 0) = true := by simp [her]
      clear hrd her
      go_wp2_with (go_at_call 10; refine (idecode_any cc _ _ (B8.out.tab HT.out) HC8.out.bsI).mono ?_; rintro e w9 h9; rw [HRD.out] at h9; obtain ⟨a9, c9, rfl, hb⟩ := h9.err; have B9 := Lib.hid (B8.out.on hb); clear hb h9)
      go_ret
      exact ⟨rfl, B9.out.2⟩
    | ok nn =>
      have HRD := Lib.hid hrd
      have HWR := Lib.hid (infos_written hrd)
      clear hrd
      go_wp2_with (first
        | (go_at_call 15; refine (same_any _ _ _ _ _ _ _ HX10.out HC10.out).mono ?_; rintro e w11 ⟨rfl, nd, hw11⟩; have B11 : Hid (BaseI w n w11) := (by rw [hw11]; exact B10.out.draw nd); clear hw11; rw [dec_self])
        | (go_at_call 8; refine (iencode_any nn _ _ _ (B9.out.tab HT.out) HN9.out).mono ?_; rintro e w10 h10; rw [HWR.out] at h10; obtain ⟨a10, c10, rfl, h10, hb⟩ := h10.got; have HX10 := Lib.hid h10; have HC10 := Lib.hid (HC9.out.onI hb); have B10 := Lib.hid (B9.out.on hb); clear hb h10)
        | (go_at_call 10; refine (idecode_any cc _ _ (B8.out.tab HT.out) HC8.out.bsI).mono ?_; rintro e w9 h9; rw [HRD.out] at h9; obtain ⟨a9, c9, rfl, h9, hb⟩ := h9.got; have HN9 := Lib.hid (h9.madeI B8.out.lt); have HC9 := Lib.hid (HC8.out.onI hb); have B9 := Lib.hid (B8.out.on hb); clear hb h9))
      go_ret
      exact ⟨rfl, B11.out.2⟩
  · have hn1 : decide ((n : Int) ≤ 400) = false := decide_eq_false hn
    rw [hn1] at HL
    clear hn hn1
    go_enter Tryd.func5, Tryd.ntmps5
    go_wp2_with (first
      | (go_at_call 17; refine HL.out.mono ?_; rintro e w' ⟨rfl, hw'⟩; rw [hw']; clear hw' w')
      | (go_at_call 12; refine (awakeI_any w HT.out).mono ?_; rintro e w2 ⟨rfl, h2⟩; have H2 := Lib.hid h2; clear h2))
    go_ret
    exact ⟨rfl, H2.out⟩
end Go.Proofs.YtdpiehhblflacaaDoor
/- Layer 14: append of all infos of a slice onto a row of the call's own. -/
namespace Go.Proofs.YtdpiehhblflacaaDoor
open Go.RowKit Go.Deep

theorem infs_cells {w : World} {b : Nat} : ∀ (m : List Inf) (off : Nat), InfsAt w m b off → ∀ j u, (infV m)[j]? = some u → w.cell? ⟨b, off + j, none⟩ = some u := by
  intro m
  induction m with
  | nil => intro off _ j u h; simp [infV] at h
  | cons x r ih =>
    intro off ⟨⟨h0, h1, h2, h3, h4⟩, _, hr⟩ j u h
    match j, h with
    | 0, h => rw [← show _ = u from Option.some.inj h]; exact h0
    | 1, h => rw [← show _ = u from Option.some.inj h]; exact h1
    | 2, h => rw [← show _ = u from Option.some.inj h]; exact h2
    | 3, h => rw [← show _ = u from Option.some.inj h]; exact h3
    | 4, h => rw [← show _ = u from Option.some.inj h]; exact h4
    | j + 5, h =>
      have := ih (off + 5) hr j u (by simpa [infV] using h)
      rwa [show off + (j + 5) = off + 5 + j by omega]
theorem infV_one (m : List Inf) : ∀ u ∈ infV m, u.oneCell' = true := by
  induction m with
  | nil => intro u h; simp [infV] at h
  | cons x r ih =>
    intro u h
    simp only [infV, List.mem_cons] at h
    rcases h with rfl | rfl | rfl | rfl | rfl | h
    all_goals first | rfl | exact ih u h
/-- What the append leaves. -/
structure MoreI (w w' : World) (base : Nat) (o o' : Value) (l : List Inf) : Prop where
  own : OwnI w' base o' l
  below : Below base w w'
  grown : w.grownBy w' o.ownBlock
  at_ : o'.ownBlock = o.ownBlock ∨ o'.ownBlock = some w.heap.size
theorem wpList_moreI {ops : Array Oper} {rest : List Oper} {op : Oper} {a : Act} {w : World} {Q : Exit → Act → World → Prop} (hgd : op.guard = none) (s x : Operand)
    (ho : op.op = .call { callee := .builtin .append, args := #[s, x], argTypes := #[22, 22] })
    (base : Nat) (o : Value) (l : List Inf) (hs : a.eval s = o) (hown : OwnI w base o l) (m : List Inf) (S : Nat → Prop) (A : Option Addr) (c : Nat) (hx : a.eval x = .slice A m.length c) (hm : InfS w S (.slice A m.length c) m)
    (hl : l.length + m.length ≤ 1000000000000) (hbase : base ≤ w.heap.size)
    (h : ∀ o' w', MoreI w w' base o o' (l ++ m) → wpList Tryd.prog ops Q rest (a.put op.dst o') w') : wpList Tryd.prog ops Q (op :: rest) a w := by
  obtain ⟨i, hinfo, hzz⟩ := Option.map_eq_some_iff.1 infoInfo
  simp only [Prod.mk.injEq] at hzz
  obtain ⟨hz, hsize, hbb⟩ := hzz
  obtain ⟨A', c', e, _, _, _, hc⟩ := hm
  injection e with e1 _ e3
  subst e1 e3
  have fin : ∀ (ad : Addr), A = some ad → (∀ j u, (infV m)[j]? = some u → w.cell? (ad.add j) = some u) → wpList Tryd.prog ops Q (op :: rest) a w := by
    intro ad hA hcell
    subst hA
    refine wpList_plain hgd fun K hK => ?_
    obtain ⟨v', w', hr, g1, g2, _, g3⟩ := run_append_own_at (P := Tryd.prog) w base 22 op.type 45 i _ 5 40 Tryd.underlying22 hinfo hz hsize hbb z5 (by omega) o l.length (infV l) hown ad m.length c (infV m) (infV_len m) hcell (infV_one m) (by unfold maxLen; omega) (by omega) hbase
    unfold Oper.wp execOp
    simp only [ho, resolve, invoke, builtin, Sem.run_bind, Sem.run_pure, Result.andThen_ok, List.map_toArray, List.map_cons, List.map_nil, hs, hx, hr]
    refine hK _ _ (h v' w' ⟨?_, ⟨g2.os, g2.tape, g2.output, g2.size, fun b hb' => g2.block b (by omega) fun e => ?_⟩, g2, g3⟩)
    · show w'.ownsRow base 45 5 v' (l ++ m).length (infV (l ++ m))
      rw [infV_app, List.length_append]
      exact g1
    · have := (hown.lt b e.symm).1
      omega
  rcases Nat.eq_zero_or_pos m.length with h0 | h0
  · have hm0 : m = [] := List.eq_nil_of_length_eq_zero h0
    subst hm0
    rcases A with _ | ad
    · refine wpList_plain hgd fun K hK => ?_
      have hrun := run_append_nil (P := Tryd.prog) w base 22 op.type 45 i 5 Tryd.underlying22 hinfo o l.length (infV l) hown c
      unfold Oper.wp execOp
      simp only [ho, resolve, invoke, builtin, Sem.run_bind, Sem.run_pure, Result.andThen_ok, List.map_toArray, List.map_cons, List.map_nil, hs, hx, List.length_nil, hrun]
      exact hK _ _ (h _ _ ⟨by rw [List.append_nil]; exact hown, Below.refl _ _, World.grownBy.refl _ _, .inl rfl⟩)
    · exact fin ad rfl (fun j u hu => by simp [infV] at hu)
  · obtain ⟨b, off, hA, _, _, hat⟩ := hc h0
    refine fin _ hA fun j u hu => ?_
    have e : (⟨b, off, none⟩ : Addr).add j = ⟨b, off + j, none⟩ := by unfold Addr.add; split <;> simp_all
    rw [e]; exact infs_cells m off hat j u hu
end Go.Proofs.YtdpiehhblflacaaDoor
/- Infos: slices.Index and slices.Contains. -/
namespace Go.Proofs.YtdpiehhblflacaaDoor
open Go.RowKit Go.Deep

set_option maxRecDepth 100000 in
set_option maxHeartbeats 2000000 in
theorem iindex_any (l : List Inf) (x : Inf) (v : Value) (S : Nat → Prop) (w : World) (hv : InfS w S v l) :
    Calls Tryd.prog 69 #[v, .agg x.cells] w fun e w' => ∃ z, e = .returned (.int .i64 z) ∧ decide (z ≥ 0) = decide (x ∈ l) ∧ Below w.heap.size w w' := by
  obtain ⟨w1, hw1⟩ : ∃ w1, w1 = w.alloc (.cells #[.int .i64 x.p, .int .i64 x.v, .int .i64 x.r, .int .i64 x.k, .int .i64 x.d] 45) := ⟨_, rfl⟩
  have hB1 : Below w.heap.size w w1 := by rw [hw1]; exact (Below.refl _ _).alloc (Nat.le_refl _) _
  have hh : w1.heap[w.heap.size]? = some (.cells #[.int .i64 x.p, .int .i64 x.v, .int .i64 x.r, .int .i64 x.k, .int .i64 x.d] 45 (0, 0)) := by rw [hw1]; exact heap_alloc_new _ _
  have hv1 : InfS w1 S v l := hv.keep fun b hs hl => ⟨hB1.block b hl, hs⟩
  obtain ⟨p, ve, rr, k, d⟩ := x
  have y0 : w1.cell? ⟨w.heap.size, 0, none⟩ = some (.int .i64 p) := by rw [cell_of_row _ _ _ _ _ _ hh]; rfl
  have y1 : w1.cell? ⟨w.heap.size, 1, none⟩ = some (.int .i64 ve) := by rw [cell_of_row _ _ _ _ _ _ hh]; rfl
  have y2 : w1.cell? ⟨w.heap.size, 2, none⟩ = some (.int .i64 rr) := by rw [cell_of_row _ _ _ _ _ _ hh]; rfl
  have y3 : w1.cell? ⟨w.heap.size, 3, none⟩ = some (.int .i64 k) := by rw [cell_of_row _ _ _ _ _ _ hh]; rfl
  have y4 : w1.cell? ⟨w.heap.size, 4, none⟩ = some (.int .i64 d) := by rw [cell_of_row _ _ _ _ _ _ hh]; rfl
  obtain ⟨a, c, rfl⟩ := hv.form
  have hla : l.length ≤ 3518437208883 := by obtain ⟨_, _, _, _, _, h, _⟩ := hv; exact h
  obtain ⟨ga, oa, hA⟩ := hv1.at
  have HA := Lib.hid hA
  have HB1 := Lib.hid hB1
  have HW1 := Lib.hid hw1
  show Calls Tryd.prog 69 #[.slice a l.length c, .agg #[.int .i64 p, .int .i64 ve, .int .i64 rr, .int .i64 k, .int .i64 d]] w _
  clear hv hv1 hA hh hB1 hw1
  go_enter Tryd.func69, Tryd.ntmps69
  go_wp2_with fail
  rw [← HW1.out]
  clear HW1
  go_loopg [8] l.length (fun m iv wr => ∃ (D R : List Inf) (nd : Nat), R.length = m ∧ iv = .int .i64 D.length ∧ D.length + R.length = l.length ∧ Hid (D ++ R = l ∧ ⟨p, ve, rr, k, d⟩ ∉ D) ∧ InfsAt w1 R ga (oa + D.length * 5) ∧ wr = w1.drewN nd)
  case atStart => exact ⟨[], l, 0, rfl, rfl, by simp, Lib.hid ⟨rfl, by simp⟩, by rw [List.length_nil, Nat.zero_mul, Nat.add_zero]; exact InfsAt.zero HA.out, rfl⟩
  case round =>
    obtain ⟨D, R, nd, rfl, rfl, hj, hab, hia, rfl⟩ := hrel
    cases R with
    | nil =>
      have E : Hid (Inf.mk p ve rr k d ∉ l) := Lib.hid (by have := hab.out; rw [List.append_nil] at this; rw [← this.1]; exact this.2)
      simp only [List.length_nil, Nat.add_zero] at hj
      clear hia hab
      go_wp2_with fail
      go_ret
      exact ⟨_, rfl, by rw [decide_eq_false E.out]; rfl, below_drewN HB1.out _⟩
    | cons x R =>
      simp only [List.length_cons] at hj
      obtain ⟨⟨x0, x1, x2, x3, x4⟩, _, hra⟩ := hia
      obtain ⟨ea, _, _⟩ := HA.out (by omega)
      subst ea
      have HRA := Lib.hid hra
      obtain ⟨o, ho⟩ : ∃ o, decide (Inf.mk p ve rr k d = x) = o := ⟨_, rfl⟩
      have hq := eql_info ⟨p, ve, rr, k, d⟩ x
      rw [ho] at hq
      obtain ⟨p', v', r', k', d'⟩ := x
      have hq' : ∀ w, (binOp .eql 45 (.agg #[.int .i64 p, .int .i64 ve, .int .i64 rr, .int .i64 k, .int .i64 d]) (.agg #[.int .i64 p', .int .i64 v', .int .i64 r', .int .i64 k', .int .i64 d'])).run Tryd.prog w = .ok (.bool o) w := hq
      have HO := Lib.hid ho
      have hlt : D.length < l.length := by omega
      clear hra ho hq
      go_upto_region 4 with fail
      go_quiet (fail)
      cases o with
      | true =>
        have E : Hid (Inf.mk p ve rr k d ∈ l) := Lib.hid (by rw [← hab.out.1, of_decide_eq_true HO.out]; simp)
        clear x0 x1 x2 x3 x4 y0 y1 y2 y3 y4 hq' HO hab
        go_wp2_with fail
        go_ret
        exact ⟨_, rfl, ⟨fun _ => E.out, fun _ => by omega⟩, below_drewN HB1.out _⟩
      | false =>
        have E : Hid (D ++ [⟨p', v', r', k', d'⟩] ++ R = l ∧ Inf.mk p ve rr k d ∉ D ++ [⟨p', v', r', k', d'⟩]) := Lib.hid ⟨by rw [List.append_assoc]; exact hab.out.1, by
          have h1 := hab.out.2
          have h2 := of_decide_eq_false HO.out
          intro h
          rcases List.mem_append.1 h with h | h
          · exact h1 h
          · exact h2 (List.mem_singleton.1 h)⟩
        clear x0 x1 x2 x3 x4 hq' HO hab
        go_wp2_with fail
        go_roundg R.length
        case measure => simp
        case rel => exact ⟨D ++ [⟨p', v', r', k', d'⟩], R, nd + nq, rfl, by rw [List.length_append, List.length_singleton]; go_num, by rw [List.length_append, List.length_singleton]; omega, E, by rw [List.length_append, List.length_singleton, show oa + (D.length + 1) * 5 = oa + D.length * 5 + 5 by omega]; exact HRA.out, rfl⟩
set_option maxRecDepth 100000 in
set_option maxHeartbeats 2000000 in
theorem icontains_any (l : List Inf) (x : Inf) (v : Value) (S : Nat → Prop) (w : World) (hv : InfS w S v l) :
    Calls Tryd.prog 44 #[v, .agg x.cells] w fun e w' => e = .returned (.bool (decide (x ∈ l))) ∧ Below w.heap.size w w' := by
  obtain ⟨w1, hw1⟩ : ∃ w1, w1 = w.alloc (.cells #[.int .i64 x.p, .int .i64 x.v, .int .i64 x.r, .int .i64 x.k, .int .i64 x.d] 45) := ⟨_, rfl⟩
  have hB1 : Below w.heap.size w w1 := by rw [hw1]; exact (Below.refl _ _).alloc (Nat.le_refl _) _
  have hh : w1.heap[w.heap.size]? = some (.cells #[.int .i64 x.p, .int .i64 x.v, .int .i64 x.r, .int .i64 x.k, .int .i64 x.d] 45 (0, 0)) := by rw [hw1]; exact heap_alloc_new _ _
  have HI := Lib.hid (iindex_any l x v S w1 (hv.keep fun b hs hl => ⟨hB1.block b hl, hs⟩))
  obtain ⟨o, ho⟩ : ∃ o, decide (x ∈ l) = o := ⟨_, rfl⟩
  rw [ho] at HI ⊢
  clear ho
  obtain ⟨p, ve, rr, k, d⟩ := x
  have y0 : w1.cell? ⟨w.heap.size, 0, none⟩ = some (.int .i64 p) := by rw [cell_of_row _ _ _ _ _ _ hh]; rfl
  have y1 : w1.cell? ⟨w.heap.size, 1, none⟩ = some (.int .i64 ve) := by rw [cell_of_row _ _ _ _ _ _ hh]; rfl
  have y2 : w1.cell? ⟨w.heap.size, 2, none⟩ = some (.int .i64 rr) := by rw [cell_of_row _ _ _ _ _ _ hh]; rfl
  have y3 : w1.cell? ⟨w.heap.size, 3, none⟩ = some (.int .i64 k) := by rw [cell_of_row _ _ _ _ _ _ hh]; rfl
  have y4 : w1.cell? ⟨w.heap.size, 4, none⟩ = some (.int .i64 d) := by rw [cell_of_row _ _ _ _ _ _ hh]; rfl
  obtain ⟨a, c, rfl⟩ := hv.form
  have HB1 := Lib.hid hB1
  have HW1 := Lib.hid hw1
  show Calls Tryd.prog 44 #[.slice a l.length c, .agg #[.int .i64 p, .int .i64 ve, .int .i64 rr, .int .i64 k, .int .i64 d]] w _
  clear hv hh hB1 hw1
  go_enter Tryd.func44, Tryd.ntmps44
  go_upto_region 1 with fail
  rw [← HW1.out]
  clear HW1
  go_wp2_with (go_at_call 69; refine HI.out.mono ?_; rintro e w2 ⟨z, rfl, hz, hb2⟩; have HZ := Lib.hid hz; have B2 := Lib.hid (HB1.out.trans (hb2.mono HB1.out.size)); clear hz hb2)
  go_ret
  exact ⟨by rw [← HZ.out]; rfl, B2.out⟩
end Go.Proofs.YtdpiehhblflacaaDoor
/- Infos: what the open list lacks (securityinfo.Missing and the reference's). -/
namespace Go.Proofs.YtdpiehhblflacaaDoor
open Go.RowKit Go.Deep

/-- append of one info, in the block that was made for it, to a row of any length. -/
theorem wpList_infoL {ops : Array Oper} {rest : List Oper} {op : Oper} {a : Act} {w : World} {Q : Exit → Act → World → Prop} (hgd : op.guard = none) (s x : Operand)
    (ho : op.op = .call { callee := .builtin .append, args := #[s, x], argTypes := #[22, 22] })
    (base : Nat) (o : Value) (l : List Inf) (y : Inf) (hs : a.eval s = o) (hown : OwnI w base o l) (ty : TypeId) (g : Nat) (hx : a.eval x = .slice (some ⟨g, 0, none⟩) 1 1) (hg : g = w.heap.size) (hl : l.length < 3518437208883) (hbase : base ≤ w.heap.size)
    (h : ∀ o' w', GrewI w w' base o o' (l ++ [y]) → wpList Tryd.prog ops Q rest (a.put op.dst o') w') : wpList Tryd.prog ops Q (op :: rest) a (w.alloc (.cells #[.int .i64 y.p, .int .i64 y.v, .int .i64 y.r, .int .i64 y.k, .int .i64 y.d] ty)) := by
  subst hg
  refine wpList_row (w := w.alloc (.cells #[.int .i64 y.p, .int .i64 y.v, .int .i64 y.r, .int .i64 y.k, .int .i64 y.d] ty)) hgd s x 22 45 5 40 (.agg #[.int .i64 0, .int .i64 0, .int .i64 0, .int .i64 0, .int .i64 0]) ho Tryd.underlying22 infoInfo z5 (by decide) base o l.length (infV l) hs (World.ownsRow.alloc hown _) w.heap.size 1
    #[.int .i64 y.p, .int .i64 y.v, .int .i64 y.r, .int .i64 y.k, .int .i64 y.d] ty (0, 0) hx (heap_alloc_new _ _) rfl (by simp [Value.oneCell']) (by unfold maxLen; omega) (by omega) (by rw [alloc_size]; omega) fun o' w' hG => h o' w' ⟨?_, ((Below.refl _ _).alloc hbase _).trans hG.below⟩
  have := hG.own
  show w'.ownsRow base 45 5 o' (l ++ [y]).length (infV (l ++ [y]))
  rw [infV_app, List.length_append]
  exact this
/-- Whether an info is of a password protocol. -/
def wordI (x : Inf) : Bool := decide (x.p = 2) || decide (x.p = 3)
/-- The infos of password protocols that are signed and not offered. -/
def missP (acc sg : List Inf) : List Inf := sg.filter fun x => wordI x && !decide (x ∈ acc)
theorem missP_len (acc sg : List Inf) : (missP acc sg).length ≤ sg.length := List.length_filter_le _ _
theorem missP_one (acc D : List Inf) (x : Inf) (o : Bool) (h : (wordI x && !decide (x ∈ acc)) = o) : missP acc (D ++ [x]) = if o = true then missP acc D ++ [x] else missP acc D := by
  unfold missP
  rw [List.filter_append, List.filter_cons, h]
  cases o <;> simp
theorem missP_no {acc D : List Inf} {x : Inf} (h : (wordI x && !decide (x ∈ acc)) = false) : missP acc (D ++ [x]) = missP acc D := by rw [missP_one _ _ _ _ h]; simp
theorem missP_yes {acc D : List Inf} {x : Inf} (h : (wordI x && !decide (x ∈ acc)) = true) : missP acc (D ++ [x]) = missP acc D ++ [x] := by rw [missP_one _ _ _ _ h]; simp
theorem infsAt_fit {w : World} {b : Nat} : ∀ (l : List Inf) (off : Nat), InfsAt w l b off → ∀ x ∈ l, x.fits := by
  intro l
  induction l with
  | nil => intro _ _ x h; simp at h
  | cons y r ih =>
    intro off ⟨_, h2, h3⟩ x h
    rcases List.mem_cons.1 h with rfl | h
    · exact h2
    · exact ih _ h3 x h
theorem missP_fits {acc sg : List Inf} (h : ∀ x ∈ sg, x.fits) : ∀ x ∈ missP acc sg, x.fits := fun x hx => h x (List.mem_filter.1 hx).1
set_option maxRecDepth 100000 in
set_option maxHeartbeats 4000000 in
theorem missing_any (acc sg : List Inf) (va vs : Value) (S S' : Nat → Prop) (w : World) (hv : InfS w S va acc) (hs : InfS w S' vs sg) :
    Calls Tryd.prog 23 #[va, vs] w fun e w' => ∃ v, e = .returned v ∧ InfS w' (New w w') v (missP acc sg) ∧ Below w.heap.size w w' := by
  have HV := Lib.hid hv
  obtain ⟨aa, ca, rfl⟩ := hv.form
  obtain ⟨a, c, rfl⟩ := hs.form
  have hls : sg.length ≤ 3518437208883 := by obtain ⟨_, _, _, _, _, h, _⟩ := hs; exact h
  obtain ⟨gb, ob, hA⟩ := hs.at
  have HA := Lib.hid hA
  have HF : Hid (∀ x ∈ sg, x.fits) := Lib.hid (infsAt_fit sg ob (InfsAt.zero hA))
  clear hv hs hA
  go_enter Tryd.func23, Tryd.ntmps23
  go_wp2_with fail
  go_loopg [5, 10] sg.length (fun m ov iv wr => ∃ (D R : List Inf) (ao : Option Addr) (co : Nat), R.length = m ∧ ov = .slice ao (missP acc D).length co ∧ iv = .int .i64 D.length ∧ D.length + R.length = sg.length ∧ Hid (D ++ R = sg) ∧ InfsAt w R gb (ob + D.length * 5) ∧ Hid (OwnI wr w.heap.size (.slice ao (missP acc D).length co) (missP acc D)) ∧ Below w.heap.size w wr)
  case atStart => exact ⟨[], sg, none, 0, rfl, rfl, rfl, by simp, Lib.hid rfl, by rw [List.length_nil, Nat.zero_mul, Nat.add_zero]; exact InfsAt.zero HA.out, Lib.hid (OwnI.nil _ _), Below.refl _ _⟩
  case round =>
    obtain ⟨D, R, ao, co, rfl, rfl, rfl, hj, hab, hia, how, hbw⟩ := hrel
    have HOW := how
    have HBW := Lib.hid hbw
    clear how
    cases R with
    | nil =>
      have E : Hid (D = sg) := Lib.hid (by have := hab.out; rwa [List.append_nil] at this)
      simp only [List.length_nil, Nat.add_zero] at hj
      clear hia hab hbw
      go_wp2_with fail
      go_ret
      have E2 := E.out
      subst E2
      refine ⟨_, rfl, (HOW.out.infs (missP_fits HF.out) (Nat.le_trans (missP_len _ _) hls)).keep fun b hb _ => ⟨rfl, hb⟩, HBW.out⟩
    | cons x R =>
      simp only [List.length_cons] at hj
      obtain ⟨⟨x0, x1, x2, x3, x4⟩, _, hra⟩ := hia
      obtain ⟨ea, ⟨_, hbl⟩, _⟩ := HA.out (by omega)
      subst ea
      have HRA := Lib.hid hra
      have hlt : (D.length : Int) < sg.length := by omega
      have hl12 : (missP acc D).length < 3518437208883 := by have := missP_len acc D; omega
      have q0 := (hbw.cell (p := ⟨gb, ob + D.length * 5, none⟩) hbl).trans x0
      have q1 := (hbw.cell (p := ⟨gb, ob + D.length * 5 + 1, none⟩) hbl).trans x1
      have q2 := (hbw.cell (p := ⟨gb, ob + D.length * 5 + 2, none⟩) hbl).trans x2
      have q3 := (hbw.cell (p := ⟨gb, ob + D.length * 5 + 3, none⟩) hbl).trans x3
      have q4 := (hbw.cell (p := ⟨gb, ob + D.length * 5 + 4, none⟩) hbl).trans x4
      have HC : Hid (∀ w1, Below w.heap.size w w1 → Calls Tryd.prog 44 #[.slice aa acc.length ca, .agg x.cells] w1 fun e w' => e = .returned (.bool (decide (x ∈ acc))) ∧ Below w1.heap.size w1 w') := Lib.hid (fun w1 h1 => icontains_any acc x _ (fun b => S b ∧ b < w.heap.size) w1 (HV.out.keep fun b hb hl => ⟨h1.block b hl, hb, hl⟩))
      have HM := Lib.hid (mapped_any x.p)
      obtain ⟨om, hom⟩ : ∃ o, (decide (x.p = 2) || decide (x.p = 3)) = o := ⟨_, rfl⟩
      obtain ⟨oc, hoc⟩ : ∃ o, decide (x ∈ acc) = o := ⟨_, rfl⟩
      rw [hom] at HM
      rw [hoc] at HC
      have HO : Hid (wordI x = om ∧ decide (x ∈ acc) = oc) := Lib.hid ⟨hom, hoc⟩
      have hsz := hbw.size
      clear hom hoc hra x0 x1 x2 x3 x4 hbw
      obtain ⟨p, ve, rr, k, d⟩ := x
      have HC' : Hid (∀ w1, Below w.heap.size w w1 → Calls Tryd.prog 44 #[.slice aa acc.length ca, .agg #[.int .i64 p, .int .i64 ve, .int .i64 rr, .int .i64 k, .int .i64 d]] w1 fun e w' => e = .returned (.bool oc) ∧ Below w1.heap.size w1 w') := HC
      have HM' : Hid (∀ w1, Calls Tryd.prog 43 #[.int .i64 p] w1 fun e w' => e = .returned (.bool om) ∧ w' = w1) := HM
      clear HC HM
      cases om with
      | false =>
        have E := Lib.hid (missP_no (acc := acc) (D := D) (x := ⟨p, ve, rr, k, d⟩) (by rw [HO.out.1]; rfl))
        clear HO HC'
        go_wp2_with (go_at_call 43; refine (HM'.out _).mono ?_; rintro e w2 ⟨rfl, hw2⟩; rw [hw2]; clear hw2 w2)
        go_roundg R.length
        case measure => simp
        case rel =>
          have E2 := E.out
          refine ⟨D ++ [⟨p, ve, rr, k, d⟩], R, ao, co, rfl, by rw [E2], by rw [List.length_append, List.length_singleton]; go_num, by rw [List.length_append, List.length_singleton]; omega, Lib.hid (by rw [List.append_assoc]; exact hab.out), by rw [List.length_append, List.length_singleton, show ob + (D.length + 1) * 5 = ob + D.length * 5 + 5 by omega]; exact HRA.out, ?_, ?_⟩
          · rw [E2]; exact Lib.hid (HOW.out.later ((Below.refl _ _).alloc (Nat.le_refl _) _))
          · exact HBW.out.alloc HBW.out.size _
      | true =>
        cases oc with
        | true =>
          have E := Lib.hid (missP_no (acc := acc) (D := D) (x := ⟨p, ve, rr, k, d⟩) (by rw [HO.out.1, HO.out.2]; rfl))
          clear HO
          go_wp2_with (first
            | (go_at_call 44; refine (HC'.out _ (HBW.out.alloc HBW.out.size _)).mono ?_; rintro e w3 ⟨rfl, hb3⟩; have B3 := Lib.hid hb3; clear hb3)
            | (go_at_call 43; refine (HM'.out _).mono ?_; rintro e w2 ⟨rfl, hw2⟩; rw [hw2]; clear hw2 w2))
          go_roundg R.length
          case measure => simp
          case rel =>
            have E2 := E.out
            have hb4 := ((Below.refl wr.heap.size wr).alloc (Nat.le_refl _) (.cells #[.int .i64 p, .int .i64 ve, .int .i64 rr, .int .i64 k, .int .i64 d] 45)).trans (B3.out.mono (by rw [alloc_size]; omega))
            refine ⟨D ++ [⟨p, ve, rr, k, d⟩], R, ao, co, rfl, by rw [E2], by rw [List.length_append, List.length_singleton]; go_num, by rw [List.length_append, List.length_singleton]; omega, Lib.hid (by rw [List.append_assoc]; exact hab.out), by rw [List.length_append, List.length_singleton, show ob + (D.length + 1) * 5 = ob + D.length * 5 + 5 by omega]; exact HRA.out, ?_, ?_⟩
            · rw [E2]; exact Lib.hid (HOW.out.later hb4)
            · exact HBW.out.trans (hb4.mono HBW.out.size)
        | false =>
          have E := Lib.hid (missP_yes (acc := acc) (D := D) (x := ⟨p, ve, rr, k, d⟩) (by rw [HO.out.1, HO.out.2]; rfl))
          clear HO
          go_wp2_with (first
            | (at_builtin; (with_reducible refine wpList_infoL (w := w3) rfl (.tmp 23) (.tmp 25) rfl w.heap.size (.slice ao (missP acc D).length co) (missP acc D) ⟨p, ve, rr, k, d⟩ rfl (HOW.out.later B4.out) 45 w3.heap.size rfl rfl hl12 (Nat.le_trans hsz B4.out.size) ?_); intro o' w' hG; obtain ⟨ao2, co2, ho'⟩ := hG.own.form; rw [List.length_append, List.length_singleton] at ho'; subst ho'; have HOE := Lib.hid hG.own; have HBE := Lib.hid ((HBW.out.trans (B4.out.mono HBW.out.size)).trans hG.below); clear hG)
            | (go_at_call 44; refine (HC'.out _ (HBW.out.alloc HBW.out.size _)).mono ?_; rintro e w3 ⟨rfl, hb3⟩; have hh3 := (hb3.block wr.heap.size (by simp)).trans (heap_alloc_new _ _); have y0 : w3.cell? ⟨wr.heap.size, 0, none⟩ = some (.int .i64 p) := (by rw [cell_of_row _ _ _ _ _ _ hh3]; rfl); have y1 : w3.cell? ⟨wr.heap.size, 1, none⟩ = some (.int .i64 ve) := (by rw [cell_of_row _ _ _ _ _ _ hh3]; rfl); have y2 : w3.cell? ⟨wr.heap.size, 2, none⟩ = some (.int .i64 rr) := (by rw [cell_of_row _ _ _ _ _ _ hh3]; rfl); have y3 : w3.cell? ⟨wr.heap.size, 3, none⟩ = some (.int .i64 k) := (by rw [cell_of_row _ _ _ _ _ _ hh3]; rfl); have y4 : w3.cell? ⟨wr.heap.size, 4, none⟩ = some (.int .i64 d) := (by rw [cell_of_row _ _ _ _ _ _ hh3]; rfl); have B4 := Lib.hid (((Below.refl wr.heap.size wr).alloc (Nat.le_refl _) (.cells #[.int .i64 p, .int .i64 ve, .int .i64 rr, .int .i64 k, .int .i64 d] 45)).trans (hb3.mono (by rw [alloc_size]; omega))); clear hb3 hh3)
            | (go_at_call 43; refine (HM'.out _).mono ?_; rintro e w2 ⟨rfl, hw2⟩; rw [hw2]; clear hw2 w2))
          go_roundg R.length
          case measure => simp
          case rel =>
            have E2 := E.out
            refine ⟨D ++ [⟨p, ve, rr, k, d⟩], R, ao2, co2, rfl, by rw [E2, List.length_append, List.length_singleton], by rw [List.length_append, List.length_singleton]; go_num, by rw [List.length_append, List.length_singleton]; omega, Lib.hid (by rw [List.append_assoc]; exact hab.out), by rw [List.length_append, List.length_singleton, show ob + (D.length + 1) * 5 = ob + D.length * 5 + 5 by omega]; exact HRA.out, ?_, HBE.out⟩
            rw [E2, List.length_append, List.length_singleton]; exact HOE
end Go.Proofs.YtdpiehhblflacaaDoor
/- Infos: what the open list lacks: the reference's Missing. -/
namespace Go.Proofs.YtdpiehhblflacaaDoor
open Go.RowKit Go.Deep

set_option maxRecDepth 100000 in
set_option maxHeartbeats 4000000 in
theorem rmissing_any (acc sg : List Inf) (va vs : Value) (S S' : Nat → Prop) (w : World) (hv : InfS w S va acc) (hs : InfS w S' vs sg) :
    Calls Tryd.prog 27 #[va, vs] w fun e w' => ∃ v, e = .returned v ∧ InfS w' (New w w') v (missP acc sg) ∧ Below w.heap.size w w' := by
  obtain ⟨aa, ca, rfl⟩ := hv.form
  obtain ⟨a, c, rfl⟩ := hs.form
  have hls : sg.length ≤ 3518437208883 := by obtain ⟨_, _, _, _, _, h, _⟩ := hs; exact h
  have hla : acc.length ≤ 3518437208883 := by obtain ⟨_, _, _, _, _, h, _⟩ := hv; exact h
  obtain ⟨gb, ob, hA⟩ := hs.at
  obtain ⟨gc, oc, hC⟩ := hv.at
  have HA := Lib.hid hA
  have HC := Lib.hid hC
  have HF : Hid (∀ x ∈ sg, x.fits) := Lib.hid (infsAt_fit sg ob (InfsAt.zero hA))
  clear hv hs hA hC
  go_enter Tryd.func27, Tryd.ntmps27
  go_wp2_with fail
  go_loopg [5, 6] sg.length (fun m ov iv wr => ∃ (D R : List Inf) (ao : Option Addr) (co : Nat), R.length = m ∧ ov = .slice ao (missP acc D).length co ∧ iv = .int .i64 D.length ∧ D.length + R.length = sg.length ∧ Hid (D ++ R = sg) ∧ InfsAt w R gb (ob + D.length * 5) ∧ Hid (OwnI wr w.heap.size (.slice ao (missP acc D).length co) (missP acc D)) ∧ Below w.heap.size w wr)
  case atStart => exact ⟨[], sg, none, 0, rfl, rfl, rfl, by simp, Lib.hid rfl, by rw [List.length_nil, Nat.zero_mul, Nat.add_zero]; exact InfsAt.zero HA.out, Lib.hid (OwnI.nil _ _), Below.refl _ _⟩
  case round =>
    obtain ⟨D, R, ao, co, rfl, rfl, rfl, hj, hab, hia, how, hbw⟩ := hrel
    have HOW := how
    have HBW := Lib.hid hbw
    clear how
    cases R with
    | nil =>
      have E : Hid (D = sg) := Lib.hid (by have := hab.out; rwa [List.append_nil] at this)
      simp only [List.length_nil, Nat.add_zero] at hj
      clear hia hab hbw
      go_wp2_with fail
      go_ret
      have E2 := E.out
      subst E2
      refine ⟨_, rfl, (HOW.out.infs (missP_fits HF.out) (Nat.le_trans (missP_len _ _) hls)).keep fun b hb _ => ⟨rfl, hb⟩, HBW.out⟩
    | cons x R =>
      simp only [List.length_cons] at hj
      obtain ⟨⟨x0, x1, x2, x3, x4⟩, _, hra⟩ := hia
      obtain ⟨ea, ⟨_, hbl⟩, _⟩ := HA.out (by omega)
      subst ea
      have HRA := Lib.hid hra
      have hlt : (D.length : Int) < sg.length := by omega
      have hl12 : (missP acc D).length < 3518437208883 := by have := missP_len acc D; omega
      have q0 := (hbw.cell (p := ⟨gb, ob + D.length * 5, none⟩) hbl).trans x0
      have q1 := (hbw.cell (p := ⟨gb, ob + D.length * 5 + 1, none⟩) hbl).trans x1
      have q2 := (hbw.cell (p := ⟨gb, ob + D.length * 5 + 2, none⟩) hbl).trans x2
      have q3 := (hbw.cell (p := ⟨gb, ob + D.length * 5 + 3, none⟩) hbl).trans x3
      have q4 := (hbw.cell (p := ⟨gb, ob + D.length * 5 + 4, none⟩) hbl).trans x4
      have hsz := hbw.size
      clear hra x0 x1 x2 x3 x4 hbw
      obtain ⟨w1, hw1⟩ : ∃ w1, w1 = wr.alloc (.cells #[.int .i64 x.p, .int .i64 x.v, .int .i64 x.r, .int .i64 x.k, .int .i64 x.d] 45) := ⟨_, rfl⟩
      have hh : w1.heap[wr.heap.size]? = some (.cells #[.int .i64 x.p, .int .i64 x.v, .int .i64 x.r, .int .i64 x.k, .int .i64 x.d] 45 (0, 0)) := by rw [hw1]; exact heap_alloc_new _ _
      have hB1 : Below wr.heap.size wr w1 := by rw [hw1]; exact (Below.refl _ _).alloc (Nat.le_refl _) _
      have hC1 : Hid (0 < acc.length → aa = some ⟨gc, oc, none⟩ ∧ InfsAt w1 acc gc oc) := Lib.hid (fun h => by
        obtain ⟨e, ⟨_, hl⟩, h⟩ := HC.out h
        exact ⟨e, h.same ((hB1.block gc (Nat.lt_of_lt_of_le hl HBW.out.size)).trans (HBW.out.block gc hl))⟩)
      have HW : Hid (wordI x = (decide (x.p = 2) || decide (x.p = 3))) := Lib.hid rfl
      obtain ⟨p, ve, rr, k, d⟩ := x
      have y0 : w1.cell? ⟨wr.heap.size, 0, none⟩ = some (.int .i64 p) := by rw [cell_of_row _ _ _ _ _ _ hh]; rfl
      have y1 : w1.cell? ⟨wr.heap.size, 1, none⟩ = some (.int .i64 ve) := by rw [cell_of_row _ _ _ _ _ _ hh]; rfl
      have y2 : w1.cell? ⟨wr.heap.size, 2, none⟩ = some (.int .i64 rr) := by rw [cell_of_row _ _ _ _ _ _ hh]; rfl
      have y3 : w1.cell? ⟨wr.heap.size, 3, none⟩ = some (.int .i64 k) := by rw [cell_of_row _ _ _ _ _ _ hh]; rfl
      have y4 : w1.cell? ⟨wr.heap.size, 4, none⟩ = some (.int .i64 d) := by rw [cell_of_row _ _ _ _ _ _ hh]; rfl
      have HB1 := Lib.hid hB1
      have HW1 := Lib.hid hw1
      clear hh hB1 hw1
      go_upto_region 6 with fail
      rw [← HW1.out]
      obtain ⟨ow, how⟩ : ∃ o : Bool, wordI ⟨p, ve, rr, k, d⟩ = o := ⟨_, rfl⟩
      have HOW2 := Lib.hid how
      rw [how] at HW
      go_cut [8] from 20 to 28 (fun c wc => c = .bool (!ow) ∧ Hid (wc = w1))
      case first =>
        clear how
        by_cases h2 : p = 2
        · subst h2
          have e : ow = true := HW.out
          subst e
          go_wp2_with fail
          go_meet
          exact ⟨rfl, Lib.hid rfl⟩
        · have h2' : (p != 2) = true := by simp [h2]
          have e : ow = decide (p = 3) := by rw [HW.out]; simp [h2]
          go_wp2_with fail
          go_meet
          exact ⟨by rw [e]; simp only [bne, show decide (p = 3) = (p == 3) by rw [Bool.eq_iff_iff]; simp], Lib.hid rfl⟩
      case rest =>
        obtain ⟨rfl, hcw⟩ := hcut
        rw [hcw.out]
        clear hcw HW HW1 q0 q1 q2 q3 q4 how
        go_wp2_with fail
        go_loopg [8, 9] acc.length (fun m cv kv wi => ∃ (D2 R2 : List Inf) (nd : Nat) (o : Bool), R2.length = m ∧ cv = .bool o ∧ kv = .int .i64 D2.length ∧ D2.length + R2.length = acc.length ∧ Hid (D2 ++ R2 = acc ∧ o = (!ow || decide (Inf.mk p ve rr k d ∈ D2))) ∧ InfsAt w1 R2 gc (oc + D2.length * 5) ∧ wi = w1.drewN nd)
        case atStart => exact ⟨[], acc, 0, !ow, rfl, rfl, rfl, by simp, Lib.hid ⟨rfl, by simp⟩, by
          rw [List.length_nil, Nat.zero_mul, Nat.add_zero]
          cases acc with
          | nil => trivial
          | cons z r => exact (hC1.out (by simp)).2, rfl⟩
        case round =>
          obtain ⟨D2, R2, nd, o, rfl, rfl, rfl, hj2, hab2, hia2, rfl⟩ := hrel
          cases R2 with
          | nil =>
            have E : Hid (o = (!ow || decide (Inf.mk p ve rr k d ∈ acc))) := Lib.hid (by have := hab2.out; rw [List.append_nil] at this; rw [← this.1]; exact this.2)
            simp only [List.length_nil, Nat.add_zero] at hj2
            obtain ⟨w2, hw2⟩ : ∃ w2, w2 = w1.drewN nd := ⟨_, rfl⟩
            rw [← hw2]
            have B4 : Hid (Below wr.heap.size wr w2) := Lib.hid (by rw [hw2]; exact below_drewN HB1.out _)
            have z0 : w2.cell? ⟨wr.heap.size, 0, none⟩ = some (.int .i64 p) := by rw [hw2]; exact y0
            have z1 : w2.cell? ⟨wr.heap.size, 1, none⟩ = some (.int .i64 ve) := by rw [hw2]; exact y1
            have z2 : w2.cell? ⟨wr.heap.size, 2, none⟩ = some (.int .i64 rr) := by rw [hw2]; exact y2
            have z3 : w2.cell? ⟨wr.heap.size, 3, none⟩ = some (.int .i64 k) := by rw [hw2]; exact y3
            have z4 : w2.cell? ⟨wr.heap.size, 4, none⟩ = some (.int .i64 d) := by rw [hw2]; exact y4
            clear hia2 hab2 hw2 y0 y1 y2 y3 y4
            cases o with
            | true =>
              have E2 := Lib.hid (missP_no (acc := acc) (D := D) (x := ⟨p, ve, rr, k, d⟩) (by have e := E.out; rw [HOW2.out]; revert e; cases ow <;> simp))
              clear E
              go_wp2_with fail
              go_roundg R.length
              case measure => simp
              case rel =>
                refine ⟨D ++ [⟨p, ve, rr, k, d⟩], R, ao, co, rfl, by rw [E2.out], by rw [List.length_append, List.length_singleton]; go_num, by rw [List.length_append, List.length_singleton]; omega, Lib.hid (by rw [List.append_assoc]; exact hab.out), by rw [List.length_append, List.length_singleton, show ob + (D.length + 1) * 5 = ob + D.length * 5 + 5 by omega]; exact HRA.out, ?_, ?_⟩
                · rw [E2.out]; exact Lib.hid (HOW.out.later B4.out)
                · exact HBW.out.trans (B4.out.mono HBW.out.size)
            | false =>
              have E2 := Lib.hid (missP_yes (acc := acc) (D := D) (x := ⟨p, ve, rr, k, d⟩) (by have e := E.out; rw [HOW2.out]; revert e; cases ow <;> simp))
              clear E
              go_wp2_with (at_builtin; (with_reducible refine wpList_infoL (w := w2) rfl (.tmp 45) (.tmp 47) rfl w.heap.size (.slice ao (missP acc D).length co) (missP acc D) ⟨p, ve, rr, k, d⟩ rfl (HOW.out.later B4.out) 45 w2.heap.size rfl rfl hl12 (Nat.le_trans hsz B4.out.size) ?_); intro o' w' hG; obtain ⟨ao2, co2, ho'⟩ := hG.own.form; rw [List.length_append, List.length_singleton] at ho'; subst ho'; have HOE := Lib.hid hG.own; have HBE := Lib.hid ((HBW.out.trans (B4.out.mono HBW.out.size)).trans hG.below); clear hG)
              go_roundg R.length
              case measure => simp
              case rel =>
                refine ⟨D ++ [⟨p, ve, rr, k, d⟩], R, ao2, co2, rfl, by rw [E2.out, List.length_append, List.length_singleton], by rw [List.length_append, List.length_singleton]; go_num, by rw [List.length_append, List.length_singleton]; omega, Lib.hid (by rw [List.append_assoc]; exact hab.out), by rw [List.length_append, List.length_singleton, show ob + (D.length + 1) * 5 = ob + D.length * 5 + 5 by omega]; exact HRA.out, ?_, HBE.out⟩
                rw [E2.out, List.length_append, List.length_singleton]; exact HOE
          | cons z R2 =>
            simp only [List.length_cons] at hj2
            obtain ⟨⟨x0, x1, x2, x3, x4⟩, _, hra2⟩ := hia2
            obtain ⟨ea, _⟩ := hC1.out (by omega)
            subst ea
            have HRA2 := Lib.hid hra2
            have hlt2 : (D2.length : Int) < acc.length := by omega
            cases o with
            | true =>
              have E : Hid (D2 ++ [z] ++ R2 = acc ∧ true = (!ow || decide (Inf.mk p ve rr k d ∈ D2 ++ [z]))) := Lib.hid ⟨by rw [List.append_assoc]; exact hab2.out.1, by
                have h := hab2.out.2
                revert h
                cases ow <;> simp
                intro h; exact .inl h⟩
              clear hra2 hab2 x0 x1 x2 x3 x4
              go_upto_region 10 with fail
              go_quiet (fail)
              go_wp2_with fail
              go_roundg R2.length
              case measure => simp
              case rel => exact ⟨D2 ++ [z], R2, nd + nq, true, rfl, rfl, by rw [List.length_append, List.length_singleton]; go_num, by rw [List.length_append, List.length_singleton]; omega, E, by rw [List.length_append, List.length_singleton, show oc + (D2.length + 1) * 5 = oc + D2.length * 5 + 5 by omega]; exact HRA2.out, rfl⟩
            | false =>
              obtain ⟨oq, ho⟩ : ∃ o, decide (z = Inf.mk p ve rr k d) = o := ⟨_, rfl⟩
              have hq := eql_info z ⟨p, ve, rr, k, d⟩
              rw [ho] at hq
              have E : Hid (D2 ++ [z] ++ R2 = acc ∧ oq = (!ow || decide (Inf.mk p ve rr k d ∈ D2 ++ [z]))) := Lib.hid ⟨by rw [List.append_assoc]; exact hab2.out.1, by
                have h := hab2.out.2
                rw [← ho]
                revert h
                cases ow <;> simp
                intro h
                rw [Bool.eq_iff_iff]; simp [h, eq_comm]⟩
              obtain ⟨p', v', r', k', d'⟩ := z
              have hq' : ∀ w, (binOp .eql 45 (.agg #[.int .i64 p', .int .i64 v', .int .i64 r', .int .i64 k', .int .i64 d']) (.agg #[.int .i64 p, .int .i64 ve, .int .i64 rr, .int .i64 k, .int .i64 d])).run Tryd.prog w = .ok (.bool oq) w := hq
              clear hra2 hab2 ho hq
              go_upto_region 10 with fail
              go_quiet (fail)
              go_wp2_with fail
              go_roundg R2.length
              case measure => simp
              case rel => exact ⟨D2 ++ [⟨p', v', r', k', d'⟩], R2, nd + nq, oq, rfl, rfl, by rw [List.length_append, List.length_singleton]; go_num, by rw [List.length_append, List.length_singleton]; omega, E, by rw [List.length_append, List.length_singleton, show oc + (D2.length + 1) * 5 = oc + D2.length * 5 + 5 by omega]; exact HRA2.out, rfl⟩
end Go.Proofs.YtdpiehhblflacaaDoor
/- Infos: a slice of a slice; append in a region that draws its order. -/
namespace Go.Proofs.YtdpiehhblflacaaDoor
open Go.RowKit Go.Deep

theorem InfsAt.drop {w : World} {b : Nat} : ∀ (l : List Inf) (off k : Nat), InfsAt w l b off → InfsAt w (l.drop k) b (off + k * 5) := by
  intro l
  induction l with
  | nil => intro off k _; rw [List.drop_nil]; trivial
  | cons x r ih =>
    intro off k h
    cases k with
    | zero => rw [Nat.zero_mul, Nat.add_zero]; exact h
    | succ k => rw [show off + (k + 1) * 5 = off + 5 + k * 5 by omega, List.drop_succ_cons]; exact ih _ k h.2.2
theorem InfsAt.take {w : World} {b : Nat} : ∀ (l : List Inf) (off k : Nat), InfsAt w l b off → InfsAt w (l.take k) b off := by
  intro l
  induction l with
  | nil => intro off k _; rw [List.take_nil]; trivial
  | cons x r ih =>
    intro off k h
    cases k with
    | zero => trivial
    | succ k => exact ⟨h.1, h.2.1, ih _ k h.2.2⟩
theorem InfS.take {w : World} {S : Nat → Prop} {a : Option Addr} {c k : Nat} {l : List Inf} (h : InfS w S (.slice a l.length c) l) (hk : k ≤ l.length) : InfS w S (.slice a (l.take k).length c) (l.take k) := by
  obtain ⟨a', c', e, h1, h2, h3, h4⟩ := h
  injection e with e1 _ e3
  subst e1 e3
  have hl : (l.take k).length = k := by rw [List.length_take]; omega
  refine ⟨a, c, rfl, by omega, h2, by omega, fun h0 => ?_⟩
  obtain ⟨b, off, ea, hb, hlt, hr⟩ := h4 (by omega)
  exact ⟨b, off, ea, hb, hlt, hr.take l off k⟩
theorem InfS.drop {w : World} {S : Nat → Prop} {b off c c2 k : Nat} {A : Option Addr} {l : List Inf} (h : InfS w S (.slice (some ⟨b, off, none⟩) l.length c) l) (hk : k ≤ l.length) (hA : k < l.length → A = some ⟨b, off + k * 5, none⟩) (hc : l.length - k ≤ c2) (hc2 : c2 ≤ c) : InfS w S (.slice A (l.drop k).length c2) (l.drop k) := by
  obtain ⟨a', c', e, h1, h2, h3, h4⟩ := h
  injection e with e1 _ e3
  subst e1 e3
  have hl : (l.drop k).length = l.length - k := List.length_drop
  refine ⟨A, c2, rfl, by omega, by omega, by omega, fun h0 => ?_⟩
  obtain ⟨b', off', ea, hb, hlt, hr⟩ := h4 (by omega)
  injection ea with ea
  injection ea with e1 e2
  subst e1 e2
  exact ⟨b, off + k * 5, hA (by omega), hb, hlt, hr.drop l off k⟩
/-- append of all infos of a slice, the operation alone. -/
theorem wp_moreI {op : Oper} {a : Act} {w : World} {K : Act → World → Prop} {Q : Exit → Act → World → Prop} (s x : Operand)
    (ho : op.op = .call { callee := .builtin .append, args := #[s, x], argTypes := #[22, 22] })
    (base : Nat) (o : Value) (l : List Inf) (hs : a.eval s = o) (hown : OwnI w base o l) (m : List Inf) (S : Nat → Prop) (A : Option Addr) (c : Nat) (hx : a.eval x = .slice A m.length c) (hm : InfS w S (.slice A m.length c) m)
    (hl : l.length + m.length ≤ 1000000000000) (hbase : base ≤ w.heap.size)
    (h : ∀ o' w', MoreI w w' base o o' (l ++ m) → K (a.put op.dst o') w') : Oper.wp Tryd.prog op a w K Q := by
  obtain ⟨i, hinfo, hzz⟩ := Option.map_eq_some_iff.1 infoInfo
  simp only [Prod.mk.injEq] at hzz
  obtain ⟨hz, hsize, hbb⟩ := hzz
  obtain ⟨A', c', e, _, _, _, hc⟩ := hm
  injection e with e1 _ e3
  subst e1 e3
  have fin : ∀ (ad : Addr), A = some ad → (∀ j u, (infV m)[j]? = some u → w.cell? (ad.add j) = some u) → Oper.wp Tryd.prog op a w K Q := by
    intro ad hA hcell
    subst hA
    obtain ⟨v', w', hr, g1, g2, _, g3⟩ := run_append_own_at (P := Tryd.prog) w base 22 op.type 45 i _ 5 40 Tryd.underlying22 hinfo hz hsize hbb z5 (by omega) o l.length (infV l) hown ad m.length c (infV m) (infV_len m) hcell (infV_one m) (by unfold maxLen; omega) (by omega) hbase
    unfold Oper.wp execOp
    simp only [ho, resolve, invoke, builtin, Sem.run_bind, Sem.run_pure, Result.andThen_ok, List.map_toArray, List.map_cons, List.map_nil, hs, hx, hr]
    refine (h v' w' ⟨?_, ⟨g2.os, g2.tape, g2.output, g2.size, fun b hb' => g2.block b (by omega) fun e => ?_⟩, g2, g3⟩)
    · show w'.ownsRow base 45 5 v' (l ++ m).length (infV (l ++ m))
      rw [infV_app, List.length_append]
      exact g1
    · have := (hown.lt b e.symm).1
      omega
  rcases Nat.eq_zero_or_pos m.length with h0 | h0
  · have hm0 : m = [] := List.eq_nil_of_length_eq_zero h0
    subst hm0
    rcases A with _ | ad
    · have hrun := run_append_nil (P := Tryd.prog) w base 22 op.type 45 i 5 Tryd.underlying22 hinfo o l.length (infV l) hown c
      unfold Oper.wp execOp
      simp only [ho, resolve, invoke, builtin, Sem.run_bind, Sem.run_pure, Result.andThen_ok, List.map_toArray, List.map_cons, List.map_nil, hs, hx, List.length_nil, hrun]
      exact (h _ _ ⟨by rw [List.append_nil]; exact hown, Below.refl _ _, World.grownBy.refl _ _, .inl rfl⟩)
    · exact fin ad rfl (fun j u hu => by simp [infV] at hu)
  · obtain ⟨b, off, hA, _, _, hat⟩ := hc h0
    refine fin _ hA fun j u hu => ?_
    have e : (⟨b, off, none⟩ : Addr).add j = ⟨b, off + j, none⟩ := by unfold Addr.add; split <;> simp_all
    rw [e]; exact infs_cells m off hat j u hu
end Go.Proofs.YtdpiehhblflacaaDoor
/- A slice of numbers, told by a function; the choice among infos (plain). -/
namespace Go.Proofs.YtdpiehhblflacaaDoor
open Go.RowKit

/-- A slice of numbers, told by a function. -/
def NumsS (w : World) (S : Nat → Prop) (v : Value) (f : Nat → Int) (n : Nat) : Prop :=
  (∀ j, I64in (f j)) ∧ ∃ a c, v = .slice a n c ∧ n ≤ c ∧ c ≤ 9223372036854775807 ∧ n ≤ 1000000000000000000 ∧
    (0 < n → ∃ b off, a = some ⟨b, off, none⟩ ∧ S b ∧ b < w.heap.size ∧ ∀ j, j < n → w.cell? ⟨b, off + j, none⟩ = some (.int .i64 (f j)))
theorem IntsS.told {w : World} {S : Nat → Prop} {v : Value} {n : Nat} (h : IntsS w S v n) : ∃ f, NumsS w S v f n := by
  obtain ⟨a, c, e, h1, h2, h3, h4⟩ := h
  rcases Nat.eq_zero_or_pos n with h0 | h0
  · exact ⟨fun _ => 0, fun _ => by simp [I64in], a, c, e, h1, h2, h3, fun h => by omega⟩
  · obtain ⟨b, off, ea, hb, hl, hr⟩ := h4 h0
    have hr' : ∀ j, ∃ z, I64in z ∧ (j < n → w.cell? ⟨b, off + j, none⟩ = some (.int .i64 z)) := fun j => by
      rcases Nat.lt_or_ge j n with hj | hj
      · obtain ⟨z, hz, hc⟩ := hr j hj
        exact ⟨z, hz, fun _ => hc⟩
      · exact ⟨0, by simp [I64in], fun h => by omega⟩
    exact ⟨fun j => Classical.choose (hr' j), fun j => (Classical.choose_spec (hr' j)).1, a, c, e, h1, h2, h3, fun _ => ⟨b, off, ea, hb, hl, fun j hj => (Classical.choose_spec (hr' j)).2 hj⟩⟩
theorem NumsS.keep {w w' : World} {S S' : Nat → Prop} {v : Value} {f : Nat → Int} {n : Nat} (h : NumsS w S v f n) (hk : ∀ b, S b → b < w.heap.size → w'.heap[b]? = w.heap[b]? ∧ S' b) : NumsS w' S' v f n := by
  obtain ⟨hf, a, c, e, h1, h2, h3, h4⟩ := h
  refine ⟨hf, a, c, e, h1, h2, h3, fun h0 => ?_⟩
  obtain ⟨b, off, ea, hb, hl, hr⟩ := h4 h0
  exact ⟨b, off, ea, (hk b hb hl).2, lt_of_same (hk b hb hl).1 hl, fun j hj => (by simp [World.cell?, (hk b hb hl).1] : w'.cell? ⟨b, off + j, none⟩ = w.cell? ⟨b, off + j, none⟩).trans (hr j hj)⟩
theorem NumsS.form {w : World} {S : Nat → Prop} {v : Value} {f : Nat → Int} {n : Nat} (h : NumsS w S v f n) : ∃ a c, v = .slice a n c := by
  obtain ⟨_, a, c, e, _⟩ := h
  exact ⟨a, c, e⟩
/-- The best info of a protocol, among those that come after a best one so far. -/
def bestP (z : Int) : List Inf → Inf → Inf
  | [], b => b
  | x :: r, b => bestP z r (if x.p = z ∧ b.v < x.v then x else b)
/-- The best info of the first protocol of an order that is there. -/
def choP (l : List Inf) (f : Nat → Int) : Nat → Nat → Inf × Int
  | 0, _ => (infZ, 16)
  | m + 1, j => if 0 < (bestP (f j) l infZ).v then (bestP (f j) l infZ, 0) else choP l f m (j + 1)
def choI (l : List Inf) (f : Nat → Int) (n : Nat) : Inf × Int := if validP l = 0 then choP l f n 0 else (infZ, validP l)
def ChoEnd (r : Inf × Int) (w : World) (e : Ending) (w' : World) : Prop := e = .returned (.tuple #[.agg r.1.cells, .int .i64 r.2]) ∧ Below w.heap.size w w'
theorem bestP_yes {z : Int} {x b : Inf} {r : List Inf} (h : x.p = z) (h2 : b.v < x.v) : bestP z (x :: r) b = bestP z r x := by rw [bestP, if_pos ⟨h, h2⟩]
theorem bestP_no {z : Int} {x b : Inf} {r : List Inf} (h : x.p = z → ¬ b.v < x.v) : bestP z (x :: r) b = bestP z r b := by rw [bestP, if_neg (fun h' => h h'.1 h'.2)]
end Go.Proofs.YtdpiehhblflacaaDoor
/- Infos: Choose. -/
namespace Go.Proofs.YtdpiehhblflacaaDoor
open Go.RowKit Go.Deep

set_option maxRecDepth 100000 in
set_option maxHeartbeats 4000000 in
theorem choose_any (l : List Inf) (f : Nat → Int) (n : Nat) (v vo : Value) (S S' : Nat → Prop) (w : World) (hv : InfS w S v l) (ho : NumsS w S' vo f n) :
    Calls Tryd.prog 25 #[v, vo] w (ChoEnd (choI l f n) w) := by
  obtain ⟨w0, hw0⟩ : ∃ w0, w0 = w.alloc (.cells #[.int .i64 0, .int .i64 0, .int .i64 0, .int .i64 0, .int .i64 0] 45) := ⟨_, rfl⟩
  have hz0 : w0.heap.size = w.heap.size + 1 := by rw [hw0]; simp
  have hres : w0.heap[w.heap.size]? = some (.cells #[.int .i64 0, .int .i64 0, .int .i64 0, .int .i64 0, .int .i64 0] 45) := by rw [hw0]; exact heap_alloc_new _ _
  have hB0 : Below w.heap.size w w0 := by rw [hw0]; exact (Below.refl _ _).alloc (Nat.le_refl _) _
  have HV : Hid (InfS w0 (fun b => S b ∧ b < w.heap.size) v l) := Lib.hid (hv.keep fun b hs hl => ⟨hB0.block b hl, hs, hl⟩)
  obtain ⟨a, c, rfl⟩ := hv.form
  obtain ⟨na, nc, rfl⟩ := ho.form
  have hll : l.length ≤ 3518437208883 := by obtain ⟨_, _, _, _, _, h, _⟩ := hv; exact h
  obtain ⟨hfi, _, _, e, ho1, ho2, ho3, ho4⟩ := ho
  injection e with e1 _ e3
  subst e1 e3
  obtain ⟨ob, oo, HO⟩ : ∃ b off, Hid (0 < n → na = some ⟨b, off, none⟩ ∧ b < w.heap.size ∧ ∀ j, j < n → w.cell? ⟨b, off + j, none⟩ = some (.int .i64 (f j))) := by
    rcases Nat.eq_zero_or_pos n with h0 | h0
    · exact ⟨0, 0, fun h => by omega⟩
    · obtain ⟨b, off, h1, h2, h3, h4⟩ := ho4 h0
      exact ⟨b, off, fun _ => ⟨h1, h3, h4⟩⟩
  obtain ⟨gb, gf, hA⟩ := hv.at
  have HA := Lib.hid hA
  have HS := Lib.hid (svalid_any l _ _ w0 HV.out)
  have HW0 := Lib.hid hw0; have HZ := Lib.hid hz0; have HRES := Lib.hid hres; have HB0 := Lib.hid hB0
  have hn18 : (n : Int) ≤ 1000000000000000000 := by omega
  clear hv hA hres hB0 ho1 ho2 ho3 ho4 hfi hz0 hw0
  have RN := Lib.hid (fun (w1 : World) (x : Inf) (hb : Below w0.heap.size w0 w1) => five_set (set5_row x ((hb.block w.heap.size (by have := HZ.out; omega)).trans HRES.out)))
  have FR := Lib.hid (fun (w1 : World) (hb : Below w0.heap.size w0 w1) => five_set ((hb.block w.heap.size (by have := HZ.out; omega)).trans HRES.out))
  have OUT := Lib.hid (fun (w1 : World) (x : Inf) (hb : Below w0.heap.size w0 w1) => (set5_below (x := x) (HB0.out.trans (hb.mono (by have := HZ.out; omega))) (Nat.le_refl _) : Below w.heap.size w (set5 w1 w.heap.size x)))
  obtain ⟨ev, hev⟩ : ∃ e, validP l = e := ⟨_, rfl⟩
  rw [hev] at HS
  have HEV := Lib.hid hev
  clear hev
  by_cases he : ev = 0
  · subst he
    have E : Hid (choI l f n = choP l f n 0) := by show _ = _; unfold choI; rw [if_pos HEV.out]
    rw [E.out]
    go_enter Tryd.func25, Tryd.ntmps25
    go_upto_region 1 with fail
    rw [← HW0.out]
    go_wp2_with (go_at_call 13; refine HS.out.mono ?_; rintro e w1 ⟨rfl, hb⟩; have B1 := Lib.hid hb; clear hb)
    go_loopg [20] n (fun m0 iv wr => ∃ j m : Nat, m = m0 ∧ j + m = n ∧ iv = .int .i64 j ∧ Hid (choP l f m j = choP l f n 0) ∧ Below w0.heap.size w0 wr)
    case atStart => exact ⟨0, n, rfl, by omega, rfl, rfl, B1.out⟩
    case round =>
      obtain ⟨j, m, rfl, hj, rfl, hcho, hbr⟩ := hrel
      have HBR := Lib.hid hbr
      have hsz := hbr.size
      clear hbr
      by_cases hm : m = 0
      · subst hm
        rw [Nat.add_zero] at hj
        subst hj
        have E2 : Hid (choP l f j 0 = (infZ, 16)) := by show _ = _; rw [← hcho.out]; rfl
        obtain ⟨r0, r1, r2, r3, r4, rf⟩ := FR.out wr HBR.out
        have rf0 := rf 0; have rf1 := rf 1; have rf2 := rf 2; have rf3 := rf 3; have rf4 := rf 4
        obtain ⟨y0, y1, y2, y3, y4, _⟩ := RN.out wr infZ HBR.out
        clear rf hcho
        go_wp2_with fail
        refine bodyPost_ret (v := .tuple #[.agg #[.int .i64 0, .int .i64 0, .int .i64 0, .int .i64 0, .int .i64 0], .int .i64 16]) (by simp only [set5, infZ] at y0 y1 y2 y3 y4; simp [results, Tryd.results25, go_sem, y0, y1, y2, y3, y4]) rfl ?_
        rw [E2.out]
        exact ⟨rfl, OUT.out wr infZ HBR.out⟩
      · obtain ⟨m, rfl⟩ : ∃ k, m = k + 1 := ⟨m - 1, by omega⟩
        have hjn : (j : Int) < n := by omega
        obtain ⟨rfl, hobl, hocell⟩ := HO.out (by omega)
        have ocell := hocell j (by omega)
        obtain ⟨z, hz⟩ : ∃ z, f j = z := ⟨_, rfl⟩
        rw [hz] at ocell
        have oc := (((HB0.out.trans (HBR.out.mono (by have := HZ.out; omega))).cell (p := ⟨ob, oo + j, none⟩) hobl)).trans ocell
        have hcho2 : Hid ((if 0 < (bestP z l infZ).v then (bestP z l infZ, 0) else choP l f m (j + 1)) = choP l f n 0) := by show _ = _; rw [← hcho.out, choP, hz]
        clear ocell hocell hz hm hcho
        obtain ⟨wo, rfl⟩ : ∃ wo : World, wo = wr := ⟨_, rfl⟩
        go_upto_region 8 with fail
        obtain ⟨w2, hw2⟩ : ∃ w2, w2 = wo.alloc (.cells #[.int .i64 0, .int .i64 0, .int .i64 0, .int .i64 0, .int .i64 0] 45) := ⟨_, rfl⟩
        rw [← hw2]
        have HB2 : Hid (Below w0.heap.size w0 w2) := Lib.hid (by rw [hw2]; exact HBR.out.alloc hsz _)
        have HBB : Hid (w2.heap[wo.heap.size]? = some (.cells infZ.cells 45 (0, 0))) := Lib.hid (by rw [hw2]; exact heap_alloc_new _ _)
        clear hw2 oc
        go_wp2_with fail
        go_loopg [26] l.length (fun m2 kv wi => ∃ (D R : List Inf) (best : Inf), R.length = m2 ∧ kv = .int .i64 D.length ∧ D.length + R.length = l.length ∧ Hid (D ++ R = l) ∧ Hid (bestP z R best = bestP z l infZ) ∧ InfsAt w0 R gb (gf + D.length * 5) ∧ Hid (wi.heap[wo.heap.size]? = some (.cells best.cells 45 (0, 0))) ∧ Below w0.heap.size w0 wi)
        case atStart => exact ⟨[], l, infZ, rfl, rfl, by simp, Lib.hid rfl, Lib.hid rfl, by
          rw [List.length_nil, Nat.zero_mul, Nat.add_zero]
          cases l with
          | nil => trivial
          | cons x r => exact (HA.out (by simp)).2.2.same (HB0.out.block gb (HA.out (by simp)).2.1.2), HBB, HB2.out⟩
        case round =>
          obtain ⟨wi, rfl⟩ : ∃ wi : World, wi = wr := ⟨_, rfl⟩
          obtain ⟨D, R, best, rfl, rfl, hj2, hab, hbe, hia, hbb, hbi⟩ := hrel
          obtain ⟨bp, bv, br, bk, bd⟩ := best
          cases R with
          | nil =>
            have E2 : Hid (bestP z l infZ = ⟨bp, bv, br, bk, bd⟩) := Lib.hid hbe.out.symm
            rw [E2.out] at hcho2
            simp only [List.length_nil, Nat.add_zero] at hj2
            obtain ⟨b0, b1, b2, b3, b4, _⟩ := five_set (show wi.heap[wo.heap.size]? = some (.cells #[.int .i64 bp, .int .i64 bv, .int .i64 br, .int .i64 bk, .int .i64 bd] 45 (0, 0)) from hbb.out)
            have HBI := Lib.hid hbi
            clear hia hab hbe E2 hbi
            by_cases hv0 : 0 < bv
            · have E3 : Hid (choP l f n 0 = (⟨bp, bv, br, bk, bd⟩, 0)) := by show _ = _; rw [← hcho2.out, if_pos hv0]
              obtain ⟨r0, r1, r2, r3, r4, rf⟩ := FR.out wi HBI.out
              have rf0 := rf 0; have rf1 := rf 1; have rf2 := rf 2; have rf3 := rf 3; have rf4 := rf 4
              obtain ⟨y0, y1, y2, y3, y4, _⟩ := RN.out wi ⟨bp, bv, br, bk, bd⟩ HBI.out
              clear rf hcho2
              go_wp2_with fail
              refine bodyPost_ret (v := .tuple #[.agg #[.int .i64 bp, .int .i64 bv, .int .i64 br, .int .i64 bk, .int .i64 bd], .int .i64 0]) (by simp only [set5] at y0 y1 y2 y3 y4; simp [results, Tryd.results25, go_sem, y0, y1, y2, y3, y4]) rfl ?_
              rw [E3.out]
              exact ⟨rfl, OUT.out wi ⟨bp, bv, br, bk, bd⟩ HBI.out⟩
            · have E3 : Hid (choP l f m (j + 1) = choP l f n 0) := by show _ = _; rw [← hcho2.out, if_neg hv0]
              clear hcho2
              go_wp2_with fail
              go_roundg m
              case measure => omega
              case rel => exact ⟨j + 1, m, rfl, by omega, by go_num, E3.out, HBI.out⟩
          | cons x R =>
            simp only [List.length_cons] at hj2
            obtain ⟨⟨x0, x1, x2, x3, x4⟩, _, hra⟩ := hia
            obtain ⟨ea, ⟨_, hgl⟩, _⟩ := HA.out (by omega)
            subst ea
            have hlt2 : (D.length : Int) < l.length := by omega
            have hgl0 := Nat.lt_of_lt_of_le hgl HB0.out.size
            have q0 := (hbi.cell (p := ⟨gb, gf + D.length * 5, none⟩) hgl0).trans x0
            have q1 := (hbi.cell (p := ⟨gb, gf + D.length * 5 + 1, none⟩) hgl0).trans x1
            have q2 := (hbi.cell (p := ⟨gb, gf + D.length * 5 + 2, none⟩) hgl0).trans x2
            have q3 := (hbi.cell (p := ⟨gb, gf + D.length * 5 + 3, none⟩) hgl0).trans x3
            have q4 := (hbi.cell (p := ⟨gb, gf + D.length * 5 + 4, none⟩) hgl0).trans x4
            have HRA := Lib.hid hra; have HBI := Lib.hid hbi
            have hsi := hbi.size
            clear x0 x1 x2 x3 x4 hra hbi hgl0 hgl
            obtain ⟨p, ve, rr, k, d⟩ := x
            go_upto_region 11 with fail
            obtain ⟨w3, hw3⟩ : ∃ w3, w3 = wi.alloc (.cells #[.int .i64 p, .int .i64 ve, .int .i64 rr, .int .i64 k, .int .i64 d] 45) := ⟨_, rfl⟩
            rw [← hw3]
            have hh3 : w3.heap[wi.heap.size]? = some (.cells #[.int .i64 p, .int .i64 ve, .int .i64 rr, .int .i64 k, .int .i64 d] 45 (0, 0)) := by rw [hw3]; exact heap_alloc_new _ _
            have hb3 : Below wi.heap.size wi w3 := by rw [hw3]; exact (Below.refl _ _).alloc (Nat.le_refl _) _
            have hbb3 : w3.heap[wo.heap.size]? = some (.cells #[.int .i64 bp, .int .i64 bv, .int .i64 br, .int .i64 bk, .int .i64 bd] 45 (0, 0)) := (hb3.block wo.heap.size (Array.getElem?_eq_some_iff.1 hbb.out).1).trans hbb.out
            have B3 : Hid (Below w0.heap.size w0 w3) := Lib.hid (HBI.out.trans (hb3.mono hsi))
            obtain ⟨t0, t1, t2, t3, t4, _⟩ := five_set hh3
            obtain ⟨b0, b1, b2, b3, b4, bf⟩ := five_set hbb3
            have HBB3 := Lib.hid hbb3
            clear hh3 hw3 hb3 hbb3 hbb q0 q1 q2 q3 q4
            by_cases hc : p = z ∧ bv < ve
            · obtain ⟨rfl, hlt⟩ := hc
              have hg1 : decide (ve > bv) = true := decide_eq_true hlt
              have E3 : Hid (bestP p R ⟨p, ve, rr, k, d⟩ = bestP p l infZ) := by show _ = _; rw [← hbe.out, bestP_yes (x := ⟨p, ve, rr, k, d⟩) (b := ⟨bp, bv, br, bk, bd⟩) rfl hlt]
              have bf0 := bf 0; have bf1 := bf 1; have bf2 := bf 2; have bf3 := bf 3; have bf4 := bf 4
              clear hbe bf
              go_wp2_with fail
              go_roundg R.length
              case measure => simp
              case rel =>
                refine ⟨D ++ [⟨p, ve, rr, k, d⟩], R, ⟨p, ve, rr, k, d⟩, rfl, by rw [List.length_append, List.length_singleton]; go_num, by rw [List.length_append, List.length_singleton]; omega, Lib.hid (by rw [List.append_assoc]; exact hab.out), E3, by rw [List.length_append, List.length_singleton, show gf + (D.length + 1) * 5 = gf + D.length * 5 + 5 by omega]; exact HRA.out, Lib.hid (set5_row ⟨p, ve, rr, k, d⟩ HBB3.out), set5_below (x := ⟨p, ve, rr, k, d⟩) B3.out hsz⟩
            · have E3 : Hid (bestP z R ⟨bp, bv, br, bk, bd⟩ = bestP z l infZ) := by show _ = _; rw [← hbe.out, bestP_no (x := ⟨p, ve, rr, k, d⟩) (b := ⟨bp, bv, br, bk, bd⟩) (fun h h2 => hc ⟨h, h2⟩)]
              by_cases hp : p = z
              · subst hp
                have hg1 : decide (ve > bv) = false := decide_eq_false (fun h => hc ⟨rfl, h⟩)
                clear hbe bf hc
                go_wp2_with fail
                go_roundg R.length
                case measure => simp
                case rel =>
                  refine ⟨D ++ [⟨p, ve, rr, k, d⟩], R, ⟨bp, bv, br, bk, bd⟩, rfl, by rw [List.length_append, List.length_singleton]; go_num, by rw [List.length_append, List.length_singleton]; omega, Lib.hid (by rw [List.append_assoc]; exact hab.out), E3, by rw [List.length_append, List.length_singleton, show gf + (D.length + 1) * 5 = gf + D.length * 5 + 5 by omega]; exact HRA.out, HBB3, B3.out⟩
              · have hp' : (p == z) = false := by simp [hp]
                clear hbe bf hc
                go_wp2_with fail
                go_roundg R.length
                case measure => simp
                case rel =>
                  refine ⟨D ++ [⟨p, ve, rr, k, d⟩], R, ⟨bp, bv, br, bk, bd⟩, rfl, by rw [List.length_append, List.length_singleton]; go_num, by rw [List.length_append, List.length_singleton]; omega, Lib.hid (by rw [List.append_assoc]; exact hab.out), E3, by rw [List.length_append, List.length_singleton, show gf + (D.length + 1) * 5 = gf + D.length * 5 + 5 by omega]; exact HRA.out, HBB3, B3.out⟩
  · have E : Hid (choI l f n = (infZ, ev)) := by show _ = _; unfold choI; rw [HEV.out, if_neg he]
    have he' : (ev != 0) = true := by simp [he]
    rw [E.out]
    clear he
    go_enter Tryd.func25, Tryd.ntmps25
    go_upto_region 1 with fail
    rw [← HW0.out]
    go_upto_region 2 with (go_at_call 13; refine HS.out.mono ?_; rintro e w1 ⟨rfl, hb⟩; have B1 := Lib.hid hb; clear hb)
    obtain ⟨r0, r1, r2, r3, r4, rf⟩ := FR.out w1 B1.out
    have rf0 := rf 0; have rf1 := rf 1; have rf2 := rf 2; have rf3 := rf 3; have rf4 := rf 4
    obtain ⟨y0, y1, y2, y3, y4, _⟩ := RN.out w1 infZ B1.out
    clear rf
    go_wp2_with fail
    exact bodyPost_ret (v := .tuple #[.agg #[.int .i64 0, .int .i64 0, .int .i64 0, .int .i64 0, .int .i64 0], .int .i64 ev]) (by simp only [set5, infZ] at y0 y1 y2 y3 y4; simp [results, Tryd.results25, go_sem, y0, y1, y2, y3, y4]) rfl ⟨rfl, OUT.out w1 infZ B1.out⟩
end Go.Proofs.YtdpiehhblflacaaDoor
/- Infos: the reference's Choose. -/
namespace Go.Proofs.YtdpiehhblflacaaDoor
open Go.RowKit Go.Deep

set_option maxRecDepth 100000 in
set_option maxHeartbeats 4000000 in
theorem rchoose_any (l : List Inf) (f : Nat → Int) (n : Nat) (v vo : Value) (S S' : Nat → Prop) (w : World) (hv : InfS w S v l) (ho : NumsS w S' vo f n) :
    Calls Tryd.prog 26 #[v, vo] w (ChoEnd (choI l f n) w) := by
  obtain ⟨w0, hw0⟩ : ∃ w0, w0 = w.alloc (.cells #[.int .i64 0, .int .i64 0, .int .i64 0, .int .i64 0, .int .i64 0] 45) := ⟨_, rfl⟩
  have hz0 : w0.heap.size = w.heap.size + 1 := by rw [hw0]; simp
  have hres : w0.heap[w.heap.size]? = some (.cells #[.int .i64 0, .int .i64 0, .int .i64 0, .int .i64 0, .int .i64 0] 45) := by rw [hw0]; exact heap_alloc_new _ _
  have hB0 : Below w.heap.size w w0 := by rw [hw0]; exact (Below.refl _ _).alloc (Nat.le_refl _) _
  have HV : Hid (InfS w0 (fun b => S b ∧ b < w.heap.size) v l) := Lib.hid (hv.keep fun b hs hl => ⟨hB0.block b hl, hs, hl⟩)
  obtain ⟨a, c, rfl⟩ := hv.form
  obtain ⟨na, nc, rfl⟩ := ho.form
  have hll : l.length ≤ 3518437208883 := by obtain ⟨_, _, _, _, _, h, _⟩ := hv; exact h
  obtain ⟨hfi, _, _, e, ho1, ho2, ho3, ho4⟩ := ho
  injection e with e1 _ e3
  subst e1 e3
  obtain ⟨ob, oo, HO⟩ : ∃ b off, Hid (0 < n → na = some ⟨b, off, none⟩ ∧ b < w.heap.size ∧ ∀ j, j < n → w.cell? ⟨b, off + j, none⟩ = some (.int .i64 (f j))) := by
    rcases Nat.eq_zero_or_pos n with h0 | h0
    · exact ⟨0, 0, fun h => by omega⟩
    · obtain ⟨b, off, h1, h2, h3, h4⟩ := ho4 h0
      exact ⟨b, off, fun _ => ⟨h1, h3, h4⟩⟩
  obtain ⟨gb, gf, hA⟩ := hv.at
  have HA := Lib.hid hA
  have HS := Lib.hid (rivalid_any l _ _ w0 HV.out)
  have HW0 := Lib.hid hw0; have HZ := Lib.hid hz0; have HRES := Lib.hid hres; have HB0 := Lib.hid hB0
  have hn18 : (n : Int) ≤ 1000000000000000000 := by omega
  clear hv hA hres hB0 ho1 ho2 ho3 ho4 hfi hz0 hw0
  have RN := Lib.hid (fun (w1 : World) (x : Inf) (hb : Below w0.heap.size w0 w1) => five_set (set5_row x ((hb.block w.heap.size (by have := HZ.out; omega)).trans HRES.out)))
  have FR := Lib.hid (fun (w1 : World) (hb : Below w0.heap.size w0 w1) => five_set ((hb.block w.heap.size (by have := HZ.out; omega)).trans HRES.out))
  have OUT := Lib.hid (fun (w1 : World) (x : Inf) (hb : Below w0.heap.size w0 w1) => (set5_below (x := x) (HB0.out.trans (hb.mono (by have := HZ.out; omega))) (Nat.le_refl _) : Below w.heap.size w (set5 w1 w.heap.size x)))
  obtain ⟨ev, hev⟩ : ∃ e, validP l = e := ⟨_, rfl⟩
  rw [hev] at HS
  have HEV := Lib.hid hev
  clear hev
  by_cases he : ev = 0
  · subst he
    have E : Hid (choI l f n = choP l f n 0) := by show _ = _; unfold choI; rw [if_pos HEV.out]
    rw [E.out]
    go_enter Tryd.func26, Tryd.ntmps26
    go_upto_region 1 with fail
    rw [← HW0.out]
    go_wp2_with (go_at_call 14; refine HS.out.mono ?_; rintro e w1 ⟨rfl, hb⟩; have B1 := Lib.hid hb; clear hb)
    go_loopg [7] n (fun m0 iv wr => ∃ j m : Nat, m = m0 ∧ j + m = n ∧ iv = .int .i64 j ∧ Hid (choP l f m j = choP l f n 0) ∧ Below w0.heap.size w0 wr)
    case atStart => exact ⟨0, n, rfl, by omega, rfl, rfl, B1.out⟩
    case round =>
      obtain ⟨j, m, rfl, hj, rfl, hcho, hbr⟩ := hrel
      have HBR := Lib.hid hbr
      have hsz := hbr.size
      clear hbr
      by_cases hm : m = 0
      · subst hm
        rw [Nat.add_zero] at hj
        subst hj
        have E2 : Hid (choP l f j 0 = (infZ, 16)) := by show _ = _; rw [← hcho.out]; rfl
        obtain ⟨r0, r1, r2, r3, r4, rf⟩ := FR.out wr HBR.out
        have rf0 := rf 0; have rf1 := rf 1; have rf2 := rf 2; have rf3 := rf 3; have rf4 := rf 4
        obtain ⟨y0, y1, y2, y3, y4, _⟩ := RN.out wr infZ HBR.out
        clear rf hcho
        go_wp2_with fail
        refine bodyPost_ret (v := .tuple #[.agg #[.int .i64 0, .int .i64 0, .int .i64 0, .int .i64 0, .int .i64 0], .int .i64 16]) (by simp only [set5, infZ] at y0 y1 y2 y3 y4; simp [results, Tryd.results26, go_sem, y0, y1, y2, y3, y4]) rfl ?_
        rw [E2.out]
        exact ⟨rfl, OUT.out wr infZ HBR.out⟩
      · obtain ⟨m, rfl⟩ : ∃ k, m = k + 1 := ⟨m - 1, by omega⟩
        have hjn : (j : Int) < n := by omega
        obtain ⟨rfl, hobl, hocell⟩ := HO.out (by omega)
        have ocell := hocell j (by omega)
        obtain ⟨z, hz⟩ : ∃ z, f j = z := ⟨_, rfl⟩
        rw [hz] at ocell
        have OC := Lib.hid (fun (W : World) (h : Below w0.heap.size w0 W) => (((HB0.out.trans (h.mono (by have := HZ.out; omega))).cell (p := ⟨ob, oo + j, none⟩) hobl)).trans ocell)
        have hcho2 : Hid ((if 0 < (bestP z l infZ).v then (bestP z l infZ, 0) else choP l f m (j + 1)) = choP l f n 0) := by show _ = _; rw [← hcho.out, choP, hz]
        clear ocell hocell hz hm hcho
        obtain ⟨wo, rfl⟩ : ∃ wo : World, wo = wr := ⟨_, rfl⟩
        go_upto_region 8 with fail
        obtain ⟨w2, hw2⟩ : ∃ w2, w2 = wo.alloc (.cells #[.int .i64 0, .int .i64 0, .int .i64 0, .int .i64 0, .int .i64 0] 45) := ⟨_, rfl⟩
        rw [← hw2]
        have HB2 : Hid (Below w0.heap.size w0 w2) := Lib.hid (by rw [hw2]; exact HBR.out.alloc hsz _)
        have HBB : Hid (w2.heap[wo.heap.size]? = some (.cells infZ.cells 45 (0, 0))) := Lib.hid (by rw [hw2]; exact heap_alloc_new _ _)
        clear hw2
        go_wp2_with fail
        go_loopg [9] l.length (fun m2 kv wi => ∃ (D R : List Inf) (best : Inf), R.length = m2 ∧ kv = .int .i64 D.length ∧ D.length + R.length = l.length ∧ Hid (D ++ R = l) ∧ Hid (bestP z R best = bestP z l infZ) ∧ InfsAt w0 R gb (gf + D.length * 5) ∧ Hid (wi.heap[wo.heap.size]? = some (.cells best.cells 45 (0, 0))) ∧ Below w0.heap.size w0 wi)
        case atStart => exact ⟨[], l, infZ, rfl, rfl, by simp, Lib.hid rfl, Lib.hid rfl, by
          rw [List.length_nil, Nat.zero_mul, Nat.add_zero]
          cases l with
          | nil => trivial
          | cons x r => exact (HA.out (by simp)).2.2.same (HB0.out.block gb (HA.out (by simp)).2.1.2), HBB, HB2.out⟩
        case round =>
          obtain ⟨wi, rfl⟩ : ∃ wi : World, wi = wr := ⟨_, rfl⟩
          obtain ⟨D, R, best, rfl, rfl, hj2, hab, hbe, hia, hbb, hbi⟩ := hrel
          obtain ⟨bp, bv, br, bk, bd⟩ := best
          cases R with
          | nil =>
            have E2 : Hid (bestP z l infZ = ⟨bp, bv, br, bk, bd⟩) := Lib.hid hbe.out.symm
            rw [E2.out] at hcho2
            simp only [List.length_nil, Nat.add_zero] at hj2
            obtain ⟨b0, b1, b2, b3, b4, _⟩ := five_set (show wi.heap[wo.heap.size]? = some (.cells #[.int .i64 bp, .int .i64 bv, .int .i64 br, .int .i64 bk, .int .i64 bd] 45 (0, 0)) from hbb.out)
            have HBI := Lib.hid hbi
            clear hia hab hbe E2 hbi
            by_cases hv0 : 0 < bv
            · have E3 : Hid (choP l f n 0 = (⟨bp, bv, br, bk, bd⟩, 0)) := by show _ = _; rw [← hcho2.out, if_pos hv0]
              obtain ⟨r0, r1, r2, r3, r4, rf⟩ := FR.out wi HBI.out
              have rf0 := rf 0; have rf1 := rf 1; have rf2 := rf 2; have rf3 := rf 3; have rf4 := rf 4
              obtain ⟨y0, y1, y2, y3, y4, _⟩ := RN.out wi ⟨bp, bv, br, bk, bd⟩ HBI.out
              clear rf hcho2
              go_wp2_with fail
              refine bodyPost_ret (v := .tuple #[.agg #[.int .i64 bp, .int .i64 bv, .int .i64 br, .int .i64 bk, .int .i64 bd], .int .i64 0]) (by simp only [set5] at y0 y1 y2 y3 y4; simp [results, Tryd.results26, go_sem, y0, y1, y2, y3, y4]) rfl ?_
              rw [E3.out]
              exact ⟨rfl, OUT.out wi ⟨bp, bv, br, bk, bd⟩ HBI.out⟩
            · have E3 : Hid (choP l f m (j + 1) = choP l f n 0) := by show _ = _; rw [← hcho2.out, if_neg hv0]
              clear hcho2
              go_wp2_with fail
              go_roundg m
              case measure => omega
              case rel => exact ⟨j + 1, m, rfl, by omega, by go_num, E3.out, HBI.out⟩
          | cons x R =>
            simp only [List.length_cons] at hj2
            obtain ⟨⟨x0, x1, x2, x3, x4⟩, _, hra⟩ := hia
            obtain ⟨ea, ⟨_, hgl⟩, _⟩ := HA.out (by omega)
            subst ea
            have hlt2 : (D.length : Int) < l.length := by omega
            have hgl0 := Nat.lt_of_lt_of_le hgl HB0.out.size
            have q0 := (hbi.cell (p := ⟨gb, gf + D.length * 5, none⟩) hgl0).trans x0
            have q1 := (hbi.cell (p := ⟨gb, gf + D.length * 5 + 1, none⟩) hgl0).trans x1
            have q2 := (hbi.cell (p := ⟨gb, gf + D.length * 5 + 2, none⟩) hgl0).trans x2
            have q3 := (hbi.cell (p := ⟨gb, gf + D.length * 5 + 3, none⟩) hgl0).trans x3
            have q4 := (hbi.cell (p := ⟨gb, gf + D.length * 5 + 4, none⟩) hgl0).trans x4
            have HRA := Lib.hid hra; have HBI := Lib.hid hbi
            have hsi := hbi.size
            clear x0 x1 x2 x3 x4 hra hbi hgl0 hgl
            obtain ⟨p, ve, rr, k, d⟩ := x
            have oc := OC.out wi HBI.out
            obtain ⟨b0, b1, b2, b3, b4, bf⟩ := five_set (show wi.heap[wo.heap.size]? = some (.cells #[.int .i64 bp, .int .i64 bv, .int .i64 br, .int .i64 bk, .int .i64 bd] 45 (0, 0)) from hbb.out)
            have HBB3 : Hid (∀ n, (wi.drewN n).heap[wo.heap.size]? = some (.cells #[.int .i64 bp, .int .i64 bv, .int .i64 br, .int .i64 bk, .int .i64 bd] 45 (0, 0))) := Lib.hid (fun n => hbb.out)
            have B3 : Hid (∀ n, Below w0.heap.size w0 (wi.drewN n)) := Lib.hid (fun n => below_drewN HBI.out n)
            clear hbb
            by_cases hc : p = z ∧ bv < ve
            · obtain ⟨rfl, hlt⟩ := hc
              have hg1 : decide (ve > bv) = true := decide_eq_true hlt
              have E3 : Hid (bestP p R ⟨p, ve, rr, k, d⟩ = bestP p l infZ) := by show _ = _; rw [← hbe.out, bestP_yes (x := ⟨p, ve, rr, k, d⟩) (b := ⟨bp, bv, br, bk, bd⟩) rfl hlt]
              have bf0 := bf 0; have bf1 := bf 1; have bf2 := bf 2; have bf3 := bf 3; have bf4 := bf 4
              clear hbe bf
              go_upto_region 11 with fail
              go_quiet (fail)
              obtain ⟨w3, hw3⟩ : ∃ w3, w3 = wi.drewN nq := ⟨_, rfl⟩
              rw [← hw3]
              have B4 : Hid (Below w0.heap.size w0 w3) := Lib.hid (by rw [hw3]; exact B3.out nq)
              have HBB4 : Hid (w3.heap[wo.heap.size]? = some (.cells #[.int .i64 bp, .int .i64 bv, .int .i64 br, .int .i64 bk, .int .i64 bd] 45 (0, 0))) := Lib.hid (by rw [hw3]; exact HBB3.out nq)
              have p0 : w3.cell? ⟨gb, gf + D.length * 5, none⟩ = some (.int .i64 p) := by rw [hw3]; exact q0
              have p1 : w3.cell? ⟨gb, gf + D.length * 5 + 1, none⟩ = some (.int .i64 ve) := by rw [hw3]; exact q1
              have p2 : w3.cell? ⟨gb, gf + D.length * 5 + 2, none⟩ = some (.int .i64 rr) := by rw [hw3]; exact q2
              have p3 : w3.cell? ⟨gb, gf + D.length * 5 + 3, none⟩ = some (.int .i64 k) := by rw [hw3]; exact q3
              have p4 : w3.cell? ⟨gb, gf + D.length * 5 + 4, none⟩ = some (.int .i64 d) := by rw [hw3]; exact q4
              obtain ⟨b0, b1, b2, b3, b4, bf⟩ := five_set HBB4.out
              have bf0 := bf 0; have bf1 := bf 1; have bf2 := bf 2; have bf3 := bf 3; have bf4 := bf 4
              clear bf hw3
              go_wp2_with fail
              go_roundg R.length
              case measure => simp
              case rel =>
                refine ⟨D ++ [⟨p, ve, rr, k, d⟩], R, ⟨p, ve, rr, k, d⟩, rfl, by rw [List.length_append, List.length_singleton]; go_num, by rw [List.length_append, List.length_singleton]; omega, Lib.hid (by rw [List.append_assoc]; exact hab.out), E3, by rw [List.length_append, List.length_singleton, show gf + (D.length + 1) * 5 = gf + D.length * 5 + 5 by omega]; exact HRA.out, Lib.hid (set5_row ⟨p, ve, rr, k, d⟩ HBB4.out), set5_below (x := ⟨p, ve, rr, k, d⟩) B4.out hsz⟩
            · have E3 : Hid (bestP z R ⟨bp, bv, br, bk, bd⟩ = bestP z l infZ) := by show _ = _; rw [← hbe.out, bestP_no (x := ⟨p, ve, rr, k, d⟩) (b := ⟨bp, bv, br, bk, bd⟩) (fun h h2 => hc ⟨h, h2⟩)]
              by_cases hp : p = z
              · subst hp
                have hg1 : decide (ve > bv) = false := decide_eq_false (fun h => hc ⟨rfl, h⟩)
                clear hbe bf hc
                go_upto_region 11 with fail
                go_quiet (fail)
                go_wp2_with fail
                go_roundg R.length
                case measure => simp
                case rel =>
                  refine ⟨D ++ [⟨p, ve, rr, k, d⟩], R, ⟨bp, bv, br, bk, bd⟩, rfl, by rw [List.length_append, List.length_singleton]; go_num, by rw [List.length_append, List.length_singleton]; omega, Lib.hid (by rw [List.append_assoc]; exact hab.out), E3, by rw [List.length_append, List.length_singleton, show gf + (D.length + 1) * 5 = gf + D.length * 5 + 5 by omega]; exact HRA.out, Lib.hid (HBB3.out nq), B3.out nq⟩
              · have hp' : (p == z) = false := by simp [hp]
                clear hbe bf hc
                go_upto_region 11 with fail
                go_quiet (fail)
                go_wp2_with fail
                go_roundg R.length
                case measure => simp
                case rel =>
                  refine ⟨D ++ [⟨p, ve, rr, k, d⟩], R, ⟨bp, bv, br, bk, bd⟩, rfl, by rw [List.length_append, List.length_singleton]; go_num, by rw [List.length_append, List.length_singleton]; omega, Lib.hid (by rw [List.append_assoc]; exact hab.out), E3, by rw [List.length_append, List.length_singleton, show gf + (D.length + 1) * 5 = gf + D.length * 5 + 5 by omega]; exact HRA.out, Lib.hid (HBB3.out nq), B3.out nq⟩
  · have E : Hid (choI l f n = (infZ, ev)) := by show _ = _; unfold choI; rw [HEV.out, if_neg he]
    have he' : (ev != 0) = true := by simp [he]
    rw [E.out]
    clear he
    go_enter Tryd.func26, Tryd.ntmps26
    go_upto_region 1 with fail
    rw [← HW0.out]
    go_upto_region 2 with (go_at_call 14; refine HS.out.mono ?_; rintro e w1 ⟨rfl, hb⟩; have B1 := Lib.hid hb; clear hb)
    obtain ⟨r0, r1, r2, r3, r4, rf⟩ := FR.out w1 B1.out
    have rf0 := rf 0; have rf1 := rf 1; have rf2 := rf 2; have rf3 := rf 3; have rf4 := rf 4
    obtain ⟨y0, y1, y2, y3, y4, _⟩ := RN.out w1 infZ B1.out
    clear rf
    go_wp2_with fail
    exact bodyPost_ret (v := .tuple #[.agg #[.int .i64 0, .int .i64 0, .int .i64 0, .int .i64 0, .int .i64 0], .int .i64 ev]) (by simp only [set5, infZ] at y0 y1 y2 y3 y4; simp [results, Tryd.results26, go_sem, y0, y1, y2, y3, y4]) rfl ⟨rfl, OUT.out w1 infZ B1.out⟩
end Go.Proofs.YtdpiehhblflacaaDoor
/- Layer 14: SecurityinfoChooses. -/
namespace Go.Proofs.YtdpiehhblflacaaDoor
open Go.RowKit Go.Deep

/-- Two lists of infos, away from the dice. -/
structure ChW (wr : World) (n : Nat) (la : List Inf) (va : Value) (lb : List Inf) (vb : Value) (wx : World) : Prop where
  a : InfS wx (OffD wr.heap.size wx) va la
  b : InfS wx (OffD wr.heap.size wx) vb lb
  base : BaseI wr n wx
theorem ChW.on {wr wx wy : World} {n : Nat} {la lb : List Inf} {va vb : Value} (h : ChW wr n la va lb vb wx) (hb : Below wx.heap.size wx wy) : ChW wr n la va lb vb wy := ⟨h.a.on hb, h.b.on hb, h.base.on hb⟩
theorem ChW.dice {wr wx wy : World} {n : Nat} {la lb : List Inf} {va vb : Value} (h : ChW wr n la va lb vb wx) (hd : DiePost (wr.heap.size + 1) wx wr.heap.size n wy) : ChW wr n la va lb vb wy := ⟨h.a.diceI hd, h.b.diceI hd, h.base.dice hd⟩
theorem RowX.on {w : World} {g : Nat} {x : Inf} (h : w.heap[g]? = some (.cells x.cells 45 (0, 0))) (wy : World) (hb : Below w.heap.size w wy) : wy.heap[g]? = some (.cells x.cells 45 (0, 0)) :=
  (hb.block g (Array.getElem?_eq_some_iff.1 h).1).trans h
theorem InfS.fitsL {w : World} {S : Nat → Prop} {v : Value} {l : List Inf} (h : InfS w S v l) : ∀ x ∈ l, x.fits := by
  intro x hx
  obtain ⟨_, _, _, _, _, _, h4⟩ := h
  obtain ⟨b, off, _, _, _, hat⟩ := h4 (List.length_pos_of_mem hx)
  exact infsAt_fit l off hat x hx
set_option maxRecDepth 100000 in
set_option maxHeartbeats 4000000 in
theorem securityinfoChooses_law (v : Value) (n : Nat) (vo : Value) (no : Nat) (l m : List Inf) (ra rb : Value) (w : World) (hT : TabE w) (hv : IntsS w (· < w.heap.size) v n) (ho : IntsS w (· < w.heap.size) vo no) (hl : InfS w (· < w.heap.size) ra l) (hm : InfS w (· < w.heap.size) rb m) :
    Calls Tryd.prog 7 #[v, vo, .agg #[ra, rb]] w fun e w' => e = .returned (.bool true) ∧ Below w.heap.size w w' := by
  obtain ⟨f, ho⟩ := ho.told
  obtain ⟨w0, hw0⟩ : ∃ w0, w0 = w.alloc (.cells #[ra, rb] 47) := ⟨_, rfl⟩
  have hB0 : Below w.heap.size w w0 := by rw [hw0]; exact (Below.refl _ _).alloc (Nat.le_refl _) _
  have hrow : w0.heap[w.heap.size]? = some (.cells #[ra, rb] 47 (0, 0)) := by rw [hw0]; exact heap_alloc_new _ _
  have c0 : w0.cell? ⟨w.heap.size, 0, none⟩ = some ra := by rw [cell_of_row _ _ _ _ _ _ hrow]; rfl
  have c1 : w0.cell? ⟨w.heap.size, 1, none⟩ = some rb := by rw [cell_of_row _ _ _ _ _ _ hrow]; rfl
  have HV : Hid (∀ W, Below w.heap.size w W → IntsS W (· < W.heap.size) v n) := Lib.hid (fun W h => hv.keep fun b hs hb => ⟨h.block b hb, Nat.lt_of_lt_of_le hb h.size⟩)
  have HO : Hid (∀ W, Below w.heap.size w W → NumsS W (· < W.heap.size) vo f no) := Lib.hid (fun W h => ho.keep fun b hs hb => ⟨h.block b hb, Nat.lt_of_lt_of_le hb h.size⟩)
  have HRL : Hid (∀ W, Below w.heap.size w W → InfS W (· < W.heap.size) ra l) := Lib.hid (fun W h => hl.keep fun b hs hb => ⟨h.block b hb, Nat.lt_of_lt_of_le hb h.size⟩)
  have HRM : Hid (∀ W, Below w.heap.size w W → InfS W (· < W.heap.size) rb m) := Lib.hid (fun W h => hm.keep fun b hs hb => ⟨h.block b hb, Nat.lt_of_lt_of_le hb h.size⟩)
  have HT : Hid (∀ W, Below w.heap.size w W → TabE W) := Lib.hid (fun W h => hT.below h hT.lt)
  obtain ⟨va, vc, rfl⟩ := hv.form
  obtain ⟨oa, oc, rfl⟩ := ho.form
  obtain ⟨raa, rac, rfl⟩ := hl.form
  obtain ⟨rba, rbc, rfl⟩ := hm.form
  have HW0 := Lib.hid hw0; have HB0 := Lib.hid hB0
  clear hv ho hl hm hT hw0 hB0 hrow
  have HL : Hid (∀ W, Below w.heap.size w W → Calls Tryd.prog 17 #[.slice va n vc] W fun e w' => e = .returned (.bool (decide ((n : Int) ≤ 400))) ∧ w' = W) := Lib.hid (fun W h => light_any _ _ n W (HV.out W h))
  by_cases hn : (n : Int) ≤ 400
  · have hn1 : decide ((n : Int) ≤ 400) = true := decide_eq_true hn
    rw [hn1] at HL
    clear hn hn1
    go_enter Tryd.func7, Tryd.ntmps7
    go_upto_region 1 with fail
    rw [← HW0.out]
    clear HW0
    go_quiet (fail)
    obtain ⟨wr, hwr⟩ : ∃ wr, wr = w0.drewN nq := ⟨_, rfl⟩
    rw [← hwr]
    have HBR : Hid (Below w.heap.size w wr) := Lib.hid (by rw [hwr]; exact below_drewN HB0.out nq)
    clear hwr c0 c1 HB0
    have HR := Lib.hid (roll_any _ n wr (HV.out wr HBR.out))
    have TO := Lib.hid (fun (W : World) (h : BaseI wr n W) => (HBR.out.trans (h.2.mono HBR.out.size) : Below w.heap.size w W))
    go_upto_region 6 with (first
      | (go_at_call 19; refine (infos_any _ _ n _ B3.out.1).mono ?_; rintro e w4 ⟨v4, rfl, lb, hi, hl, hok, hd⟩; obtain ⟨a4, c4, rfl⟩ := hi.form; have HLB := Lib.hid hl; have M4 : Hid (ChW wr n la _ lb _ w4) := ⟨HI3.out.diceI hd, hi.madeI B3.out.lt, B3.out.dice hd⟩; clear hi hl hok hd)
      | (go_at_call 19; refine (infos_any _ _ n _ B1.out.1).mono ?_; rintro e w3 ⟨v3, rfl, la, hi, hl, hok, hd⟩; obtain ⟨a3, c3, rfl⟩ := hi.form; have HLA := Lib.hid hl; have HI3 := Lib.hid (hi.madeI B1.out.lt); have B3 := Lib.hid (B1.out.dice hd); clear hi hl hok hd)
      | (go_at_call 17; refine (HL.out _ HBR.out).mono ?_; rintro e w' ⟨rfl, hw'⟩; rw [hw']; clear hw' w')
      | (go_at_call 18; refine HR.out.mono ?_; rintro e w1 ⟨rfl, hd, hb⟩; have B1 : Hid (BaseI wr n w1) := ⟨hd, hb⟩; clear hd hb))
    clear B3 HI3 B1 HL HR HV
    obtain ⟨x, hx⟩ : ∃ x, choI la f no = x := ⟨_, rfl⟩
    obtain ⟨y, hy⟩ : ∃ y, choI l f no = y := ⟨_, rfl⟩
    have CA : Hid (∀ (W : World), ChW wr n la (.slice a3 la.length c3) lb (.slice a4 lb.length c4) W → Calls Tryd.prog 25 #[.slice a3 la.length c3, .slice oa no oc] W (ChoEnd x W)) := Lib.hid (fun W h => by rw [← hx]; exact choose_any la f no _ _ _ _ W h.a (HO.out W (TO.out W h.base)))
    have RA : Hid (∀ (W : World), ChW wr n la (.slice a3 la.length c3) lb (.slice a4 lb.length c4) W → Calls Tryd.prog 26 #[.slice a3 la.length c3, .slice oa no oc] W (ChoEnd x W)) := Lib.hid (fun W h => by rw [← hx]; exact rchoose_any la f no _ _ _ _ W h.a (HO.out W (TO.out W h.base)))
    have CL : Hid (∀ (W : World), ChW wr n la (.slice a3 la.length c3) lb (.slice a4 lb.length c4) W → Calls Tryd.prog 25 #[.slice raa l.length rac, .slice oa no oc] W (ChoEnd y W)) := Lib.hid (fun W h => by rw [← hy]; exact choose_any l f no _ _ _ _ W (HRL.out W (TO.out W h.base)) (HO.out W (TO.out W h.base)))
    have RL : Hid (∀ (W : World), ChW wr n la (.slice a3 la.length c3) lb (.slice a4 lb.length c4) W → Calls Tryd.prog 26 #[.slice raa l.length rac, .slice oa no oc] W (ChoEnd y W)) := Lib.hid (fun W h => by rw [← hy]; exact rchoose_any l f no _ _ _ _ W (HRL.out W (TO.out W h.base)) (HO.out W (TO.out W h.base)))
    clear hx hy HO
    obtain ⟨⟨xp, xv, xr, xk, xd⟩, xe⟩ := x
    obtain ⟨⟨yp, yv, yr, yk, yd⟩, ye⟩ := y
    go_upto_region 7 with (go_at_call 25; refine (CA.out _ M4.out).mono ?_; rintro e u5 ⟨rfl, hb⟩; simp only [Inf.cells]; have HBU5 := Lib.hid hb; clear hb)
    obtain ⟨w5, hw5⟩ : ∃ w5, w5 = u5.alloc (.cells #[.int .i64 xp, .int .i64 xv, .int .i64 xr, .int .i64 xk, .int .i64 xd] 45) := ⟨_, rfl⟩
    rw [← hw5]
    have R5 : Hid (w5.heap[u5.heap.size]? = some (.cells (Inf.mk xp xv xr xk xd).cells 45 (0, 0))) := Lib.hid (by rw [hw5]; exact heap_alloc_new _ _)
    have HBW5 : Hid (Below w4.heap.size w4 w5) := Lib.hid (by rw [hw5]; exact HBU5.out.alloc HBU5.out.size _)
    have M5 := Lib.hid (M4.out.on HBW5.out)
    clear hw5 HBU5
    go_upto_region 8 with (go_at_call 26; refine (RA.out _ M5.out).mono ?_; rintro e u6 ⟨rfl, hb⟩; simp only [Inf.cells]; have HBU6 := Lib.hid hb; clear hb)
    obtain ⟨w6, hw6⟩ : ∃ w6, w6 = u6.alloc (.cells #[.int .i64 xp, .int .i64 xv, .int .i64 xr, .int .i64 xk, .int .i64 xd] 45) := ⟨_, rfl⟩
    rw [← hw6]
    have R6 : Hid (w6.heap[u6.heap.size]? = some (.cells (Inf.mk xp xv xr xk xd).cells 45 (0, 0))) := Lib.hid (by rw [hw6]; exact heap_alloc_new _ _)
    have HBW6 : Hid (Below w5.heap.size w5 w6) := Lib.hid (by rw [hw6]; exact HBU6.out.alloc HBU6.out.size _)
    have M6 := Lib.hid (M5.out.on HBW6.out)
    clear hw6 HBU6
    have R5 := Lib.hid (RowX.on R5.out _ HBW6.out)
    go_upto_region 9 with (go_at_call 25; refine (CL.out _ M6.out).mono ?_; rintro e u7 ⟨rfl, hb⟩; simp only [Inf.cells]; have HBU7 := Lib.hid hb; clear hb)
    obtain ⟨w7, hw7⟩ : ∃ w7, w7 = u7.alloc (.cells #[.int .i64 yp, .int .i64 yv, .int .i64 yr, .int .i64 yk, .int .i64 yd] 45) := ⟨_, rfl⟩
    rw [← hw7]
    have R7 : Hid (w7.heap[u7.heap.size]? = some (.cells (Inf.mk yp yv yr yk yd).cells 45 (0, 0))) := Lib.hid (by rw [hw7]; exact heap_alloc_new _ _)
    have HBW7 : Hid (Below w6.heap.size w6 w7) := Lib.hid (by rw [hw7]; exact HBU7.out.alloc HBU7.out.size _)
    have M7 := Lib.hid (M6.out.on HBW7.out)
    clear hw7 HBU7
    have R5 := Lib.hid (RowX.on R5.out _ HBW7.out)
    have R6 := Lib.hid (RowX.on R6.out _ HBW7.out)
    go_upto_region 10 with (go_at_call 26; refine (RL.out _ M7.out).mono ?_; rintro e u8 ⟨rfl, hb⟩; simp only [Inf.cells]; have HBU8 := Lib.hid hb; clear hb)
    obtain ⟨w8, hw8⟩ : ∃ w8, w8 = u8.alloc (.cells #[.int .i64 yp, .int .i64 yv, .int .i64 yr, .int .i64 yk, .int .i64 yd] 45) := ⟨_, rfl⟩
    rw [← hw8]
    have R8 : Hid (w8.heap[u8.heap.size]? = some (.cells (Inf.mk yp yv yr yk yd).cells 45 (0, 0))) := Lib.hid (by rw [hw8]; exact heap_alloc_new _ _)
    have HBW8 : Hid (Below w7.heap.size w7 w8) := Lib.hid (by rw [hw8]; exact HBU8.out.alloc HBU8.out.size _)
    have M8 := Lib.hid (M7.out.on HBW8.out)
    clear hw8 HBU8
    have R5 := Lib.hid (RowX.on R5.out _ HBW8.out)
    have R6 := Lib.hid (RowX.on R6.out _ HBW8.out)
    have R7 := Lib.hid (RowX.on R7.out _ HBW8.out)
    have hqx : ∀ w, (binOp .neq 45 (.agg #[.int .i64 xp, .int .i64 xv, .int .i64 xr, .int .i64 xk, .int .i64 xd]) (.agg #[.int .i64 xp, .int .i64 xv, .int .i64 xr, .int .i64 xk, .int .i64 xd])).run Tryd.prog w = .ok (.bool false) w := fun w => (neq_info ⟨xp, xv, xr, xk, xd⟩ ⟨xp, xv, xr, xk, xd⟩ w).trans (by rw [dec_self]; rfl)
    have hqy : ∀ w, (binOp .neq 45 (.agg #[.int .i64 yp, .int .i64 yv, .int .i64 yr, .int .i64 yk, .int .i64 yd]) (.agg #[.int .i64 yp, .int .i64 yv, .int .i64 yr, .int .i64 yk, .int .i64 yd])).run Tryd.prog w = .ok (.bool false) w := fun w => (neq_info ⟨yp, yv, yr, yk, yd⟩ ⟨yp, yv, yr, yk, yd⟩ w).trans (by rw [dec_self]; rfl)
    go_upto_region 12 with (go_at_call 12; refine (awakeI_any _ (HT.out _ (TO.out _ M8.out.base))).mono ?_; rintro e w9 ⟨rfl, hb⟩; have M9 := Lib.hid (M8.out.on hb); obtain ⟨r50, r51, r52, r53, r54, _⟩ := five_set (show w9.heap[u5.heap.size]? = some (.cells #[.int .i64 xp, .int .i64 xv, .int .i64 xr, .int .i64 xk, .int .i64 xd] 45 (0, 0)) from RowX.on R5.out _ hb); obtain ⟨r60, r61, r62, r63, r64, _⟩ := five_set (show w9.heap[u6.heap.size]? = some (.cells #[.int .i64 xp, .int .i64 xv, .int .i64 xr, .int .i64 xk, .int .i64 xd] 45 (0, 0)) from RowX.on R6.out _ hb); obtain ⟨r70, r71, r72, r73, r74, _⟩ := five_set (show w9.heap[u7.heap.size]? = some (.cells #[.int .i64 yp, .int .i64 yv, .int .i64 yr, .int .i64 yk, .int .i64 yd] 45 (0, 0)) from RowX.on R7.out _ hb); obtain ⟨r80, r81, r82, r83, r84, _⟩ := five_set (show w9.heap[u8.heap.size]? = some (.cells #[.int .i64 yp, .int .i64 yv, .int .i64 yr, .int .i64 yk, .int .i64 yd] 45 (0, 0)) from RowX.on R8.out _ hb); clear hb)
    clear R5 R6 R7 R8 CA RA CL RL
    go_upto_region 13 with (go_at_call 20; refine (one_any _ _ n 2 _ M9.out.base.1 (by decide) (by decide)).mono ?_; rintro e w10 ⟨b10, rfl, hd⟩; have M10 := Lib.hid (M9.out.dice hd); clear hd; cases b10)
    · skip
      go_wp2_with (first
        | (go_at_call 16; refine (isame_any _ _ _ _ _ _ _ HC7.out HC8.out).mono ?_; rintro e k9 ⟨rfl, nd, hk⟩; have N9 := Lib.hid (N8.out.on (wy := k9) (by rw [hk]; exact below_drewN (Below.refl _ _) nd)); clear hk; rw [dec_self])
        | (go_at_call 27; refine (rmissing_any _ _ _ _ _ _ _ (HRL.out _ (TO.out _ N7.out.base)) (HRM.out _ (TO.out _ N7.out.base))).mono ?_; rintro e k8 ⟨z8, rfl, hz, hb⟩; obtain ⟨za8, zc8, rfl⟩ := hz.form; have HC8 := Lib.hid hz; have HC7 := Lib.hid (HC7.out.below hb); have N8 := Lib.hid (N7.out.on hb); clear hz hb)
        | (go_at_call 23; refine (missing_any _ _ _ _ _ _ _ (HRL.out _ (TO.out _ N6.out.base)) (HRM.out _ (TO.out _ N6.out.base))).mono ?_; rintro e k7 ⟨z7, rfl, hz, hb⟩; obtain ⟨za7, zc7, rfl⟩ := hz.form; have HC7 := Lib.hid hz; have N7 := Lib.hid (N6.out.on hb); clear hz hb)
        | (go_at_call 16; refine (isame_any _ _ _ _ _ _ _ HC4.out HC5.out).mono ?_; rintro e k6 ⟨rfl, nd, hk⟩; have N6 := Lib.hid (N5.out.on (wy := k6) (by rw [hk]; exact below_drewN (Below.refl _ _) nd)); clear hk; rw [dec_self])
        | (go_at_call 27; refine (rmissing_any _ _ _ _ _ _ _ N4.out.a N4.out.b).mono ?_; rintro e k5 ⟨z5, rfl, hz, hb⟩; obtain ⟨za5, zc5, rfl⟩ := hz.form; have HC5 := Lib.hid hz; have HC4 := Lib.hid (HC4.out.below hb); have N5 := Lib.hid (N4.out.on hb); clear hz hb)
        | (go_at_call 23; refine (missing_any _ _ _ _ _ _ _ M10.out.a M10.out.b).mono ?_; rintro e k4 ⟨z4, rfl, hz, hb⟩; obtain ⟨za4, zc4, rfl⟩ := hz.form; have HC4 := Lib.hid hz; have N4 := Lib.hid (M10.out.on hb); clear hz hb))
      go_ret
      exact ⟨rfl, TO.out _ N9.out.base⟩
    · skip
      obtain ⟨hf, hhf⟩ : ∃ hf, hf = la.length / 2 := ⟨_, rfl⟩
      have hdiv : Int.tdiv (la.length : Int) 2 = (hf : Int) := by rw [hhf]; rfl
      have hle : hf ≤ la.length := by omega
      have hl16 : la.length ≤ 16 := HLA.out
      have hc3 : la.length ≤ c3 ∧ c3 ≤ 9223372036854775807 := by
        obtain ⟨_, _, e, h1, h2, _⟩ := M10.out.a
        injection e with _ _ e3
        subst e3
        exact ⟨h1, h2⟩
      have hcf : hf ≤ c3 := by omega
      have HTK : Hid ((la.take hf).length = hf) := Lib.hid (by rw [List.length_take]; omega)
      have HLE := Lib.hid hle
      have HIA : Hid (InfS w10 (OffD wr.heap.size w10) (.slice a3 (la.take hf).length c3) (la.take hf)) := Lib.hid (M10.out.a.take hle)
      rw [HTK.out] at HIA
      have HFT : Hid (∀ x ∈ la.take hf ++ lb, x.fits) := Lib.hid (fun x hx => by
        rcases List.mem_append.1 hx with h | h
        · exact M10.out.a.fitsL x (List.mem_of_mem_take h)
        · exact M10.out.b.fitsL x h)
      have HLN : Hid ((la.take hf).length + lb.length ≤ 32) := Lib.hid (by rw [HTK.out]; have := HLA.out; have := HLB.out; omega)
      obtain ⟨lc, hlc⟩ : ∃ lc, lc = la.take hf ++ lb := ⟨_, rfl⟩
      have HLC := Lib.hid hlc
      rw [← hlc] at HFT
      clear hhf hc3 hlc
      go_upto_region 14 with (first
        | (at_builtin; (with_reducible refine wpList_moreI rfl (.tmp 87) (.tmp 88) rfl w10.heap.size (.slice a12 hf c12) (la.take hf) rfl HO12.out lb (OffD wr.heap.size w10) a4 c4 rfl (HBB.out.keep fun b hs _ => ⟨rfl, hs⟩) (by have := HLN.out; omega) B12.out.size ?_); intro o' w13 hG; rw [← HLC.out] at hG; obtain ⟨a13, c13, ho'⟩ := hG.own.form; subst ho'; have hb13 : Below w10.heap.size w10 w13 := B12.out.trans hG.below; have M13 : Hid (ChW wr n la (.slice a3 la.length c3) lc (.slice a13 lc.length c13) w13) := ⟨M10.out.a.on hb13, (hG.own.infs HFT.out (by have := HLN.out; rw [HLC.out, List.length_append]; omega)).keep fun g hs _ => ⟨rfl, hs.2, fun e => by have := hs.1; have := M10.out.base.lt; omega⟩, M10.out.base.on hb13⟩; clear hG hb13)
        | (at_builtin; (with_reducible refine wpList_moreI rfl (.const (.slice none 0 0)) (.tmp 86) rfl w10.heap.size (.slice none 0 0) [] rfl (OwnI.nil _ _) (la.take hf) (OffD wr.heap.size w10) a3 c3 (by rw [HTK.out]; simp [Act.eval]) (by rw [HTK.out]; exact HIA.out) (by have := HLN.out; simp only [List.length_nil]; omega) (Nat.le_refl _) ?_); intro o' w12 hG; rw [List.nil_append] at hG; obtain ⟨a12, c12, ho'⟩ := hG.own.form; rw [HTK.out] at ho'; subst ho'; have HO12 := Lib.hid hG.own; have B12 := Lib.hid hG.below; have HBB : Hid (InfS w12 (OffD wr.heap.size w10) (.slice a4 lb.length c4) lb) := Lib.hid (M10.out.b.keep fun g hs hl => ⟨hG.below.block g hl, hs⟩); clear hG))
      go_wp2_with (first
        | (go_at_call 16; refine (isame_any _ _ _ _ _ _ _ HC7.out HC8.out).mono ?_; rintro e k9 ⟨rfl, nd, hk⟩; have N9 := Lib.hid (N8.out.on (wy := k9) (by rw [hk]; exact below_drewN (Below.refl _ _) nd)); clear hk; rw [dec_self])
        | (go_at_call 27; refine (rmissing_any _ _ _ _ _ _ _ (HRL.out _ (TO.out _ N7.out.base)) (HRM.out _ (TO.out _ N7.out.base))).mono ?_; rintro e k8 ⟨z8, rfl, hz, hb⟩; obtain ⟨za8, zc8, rfl⟩ := hz.form; have HC8 := Lib.hid hz; have HC7 := Lib.hid (HC7.out.below hb); have N8 := Lib.hid (N7.out.on hb); clear hz hb)
        | (go_at_call 23; refine (missing_any _ _ _ _ _ _ _ (HRL.out _ (TO.out _ N6.out.base)) (HRM.out _ (TO.out _ N6.out.base))).mono ?_; rintro e k7 ⟨z7, rfl, hz, hb⟩; obtain ⟨za7, zc7, rfl⟩ := hz.form; have HC7 := Lib.hid hz; have N7 := Lib.hid (N6.out.on hb); clear hz hb)
        | (go_at_call 16; refine (isame_any _ _ _ _ _ _ _ HC4.out HC5.out).mono ?_; rintro e k6 ⟨rfl, nd, hk⟩; have N6 := Lib.hid (N5.out.on (wy := k6) (by rw [hk]; exact below_drewN (Below.refl _ _) nd)); clear hk; rw [dec_self])
        | (go_at_call 27; refine (rmissing_any _ _ _ _ _ _ _ N4.out.a N4.out.b).mono ?_; rintro e k5 ⟨z5, rfl, hz, hb⟩; obtain ⟨za5, zc5, rfl⟩ := hz.form; have HC5 := Lib.hid hz; have HC4 := Lib.hid (HC4.out.below hb); have N5 := Lib.hid (N4.out.on hb); clear hz hb)
        | (go_at_call 23; refine (missing_any _ _ _ _ _ _ _ M13.out.a M13.out.b).mono ?_; rintro e k4 ⟨z4, rfl, hz, hb⟩; obtain ⟨za4, zc4, rfl⟩ := hz.form; have HC4 := Lib.hid hz; have N4 := Lib.hid (M13.out.on hb); clear hz hb))
      go_ret
      exact ⟨rfl, TO.out _ N9.out.base⟩
  · have hn1 : decide ((n : Int) ≤ 400) = false := decide_eq_false hn
    rw [hn1] at HL
    clear hn hn1
    go_enter Tryd.func7, Tryd.ntmps7
    go_upto_region 1 with fail
    rw [← HW0.out]
    clear HW0
    go_quiet (fail)
    obtain ⟨wr, hwr⟩ : ∃ wr, wr = w0.drewN nq := ⟨_, rfl⟩
    rw [← hwr]
    have HBR : Hid (Below w.heap.size w wr) := Lib.hid (by rw [hwr]; exact below_drewN HB0.out nq)
    clear hwr c0 c1 HB0
    go_wp2_with (first
      | (go_at_call 17; refine (HL.out _ HBR.out).mono ?_; rintro e w' ⟨rfl, hw'⟩; rw [hw']; clear hw' w')
      | (go_at_call 12; refine (awakeI_any _ (HT.out _ HBR.out)).mono ?_; rintro e w2 ⟨rfl, h2⟩; have H2 := Lib.hid h2; clear h2))
    go_ret
    exact ⟨rfl, HBR.out.trans (H2.out.mono HBR.out.size)⟩
end Go.Proofs.YtdpiehhblflacaaDoor
