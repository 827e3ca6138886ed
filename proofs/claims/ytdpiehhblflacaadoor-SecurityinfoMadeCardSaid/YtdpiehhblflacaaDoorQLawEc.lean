/- Layer 14, plain: infos are read as they were written, and written as they were read. -/
import Derived.Test.YtdpiehhblflacaaDoorQObjR
import Derived.Test.YtdpiehhblflacaaDoorInfoP
import Derived.Test.YtdpiehhblflacaaDoorInfoR
import Derived.Test.YtdpiehhblflacaaDoorCodes
import Derived.Test.YtdpiehhblflacaaDoorStrict
import Derived.Test.YtdpiehhblflacaaDoorQLawEa
import Derived.Test.YtdpiehhblflacaaDoorQInfosM
import Derived.Test.YtdpiehhblflacaaDoorQSpoil
import Derived.Test.YtdpiehhblflacaaDoorQInfSame
namespace Go.Proofs.YtdpiehhblflacaaDoor
open Go.RowKit

theorem chk_mk {t : Int} {v : List UInt8} {k r : Ns} {d : Nat} (tv : tagV t = true) (h1 : tagC t = false → k = .nil) (h2 : tagC t = true → v = []) (hd : d ≤ 8) (hk : k.chk (d + 1) = 0) (hr : r.chk d = 0) : (Ns.cons t v k r).chk d = 0 := by
  rw [Ns.chk, if_neg (by rw [tv]; simp), if_neg ?_, if_neg (by omega), if_pos hk]
  · exact hr
  · rintro (⟨e, h⟩ | ⟨e, h⟩)
    · rw [h1 e] at h; simp [Ns.len] at h
    · rw [h2 e] at h; simp at h
theorem prim_mk {t : Int} {v : List UInt8} {r : Ns} {d : Nat} (tv : tagV t = true) (tc : tagC t = false) (hd : d ≤ 8) (hr : r.chk d = 0) : (Ns.cons t v .nil r).chk d = 0 :=
  chk_mk tv (fun _ => rfl) (fun e => by rw [tc] at e; cases e) hd rfl hr
theorem more_chk (x : Inf) : (moreN x).chk 3 = 0 := by
  have n : ∀ n r, Ns.chk r 3 = 0 → (numN n r).chk 3 = 0 := fun n r h => prim_mk rfl rfl (by omega) h
  unfold moreN
  (repeat' split)
  · exact n _ _ rfl
  · exact prim_mk rfl rfl (by omega) (n _ _ rfl)
  · rfl
theorem set_chk (l : List Inf) : (setK l).chk 2 = 0 := by
  induction l with
  | nil => rfl
  | cons x r ih => exact chk_mk rfl (fun e => by cases e) (fun _ => rfl) (by omega) (prim_mk rfl rfl (by omega) (prim_mk rfl rfl (by omega) (more_chk x))) ih
theorem top_chk (l : List Inf) : (Ns.cons 49 [] (setK l) .nil).chk 1 = 0 := chk_mk rfl (fun e => by cases e) (fun _ => rfl) (by omega) (set_chk l) rfl
theorem enc_more (x : Inf) : (moreN x).enc.length ≤ 28 := by
  have n : ∀ z r, (numN z r).enc.length ≤ 12 + r.enc.length := fun z r => by have := enc_len 2 [ofI z] .nil r; rw [show tagC 2 = false from rfl] at this; simpa [numN] using this
  unfold moreN
  (repeat' split)
  · have := n x.r .nil; simp [Ns.enc] at this ⊢; omega
  · have h := enc_len 4 (fourB x.k) .nil (numN x.d .nil)
    have h2 := n x.d .nil
    rw [show tagC 4 = false from rfl] at h
    simp [Ns.enc, fourB_len] at h h2 ⊢
    omega
  · simp [Ns.enc]
theorem enc_kids (x : Inf) : (kidsI x).enc.length ≤ 61 := by
  have h := enc_len 6 (identB x.p) .nil (numN x.v (moreN x))
  have h2 := enc_len 2 [ofI x.v] .nil (moreN x)
  have h3 := enc_more x
  rw [show tagC 6 = false from rfl] at h
  rw [show tagC 2 = false from rfl] at h2
  simp only [identB_len, List.length_cons, List.length_nil, Bool.false_eq_true, if_false] at h h2
  show (Ns.cons 6 (identB x.p) .nil (numN x.v (moreN x))).enc.length ≤ 61
  have e : numN x.v (moreN x) = .cons 2 [ofI x.v] .nil (moreN x) := rfl
  rw [e] at h ⊢
  omega
theorem enc_set (l : List Inf) : (setK l).enc.length ≤ 72 * l.length := by
  induction l with
  | nil => simp [setK, Ns.enc]
  | cons x r ih =>
    have h := enc_len 48 [] (kidsI x) (setK r)
    have h2 := enc_kids x
    rw [show tagC 48 = true from rfl] at h
    simp only [if_true] at h
    simp only [setK, List.length_cons]
    omega
/-- Valid infos are encoded. -/
theorem encI_ok {l : List Inf} (h : validP l = 0) : encI l = .ok (Ns.cons 49 [] (setK l) .nil).enc ∧ (Ns.cons 49 [] (setK l) .nil).enc.length ≤ 4096 ∧ (Ns.cons 49 [] (setK l) .nil).all ≤ 256 := by
  have h16 := valid_len h
  have h1 := enc_set l
  have h2 := enc_len 49 [] (setK l) .nil
  rw [show tagC 49 = true from rfl] at h2
  simp only [if_true, show (Ns.nil).enc.length = 0 from rfl] at h2
  have h3 := setK_all l
  have ha : (Ns.cons 49 [] (setK l) .nil).all ≤ 256 := by simp only [Ns.all]; omega
  refine ⟨?_, by omega, ha⟩
  unfold encI
  rw [if_pos h]
  unfold encP
  rw [if_neg (by rw [top_chk]; simp), if_neg (by omega), if_neg (by omega)]
theorem numV_byte {z : Int} (h0 : 0 ≤ z) (h1 : z ≤ 255) : numV [ofI z] = z := by rw [numV_one, bv_in h0 (by omega)]
theorem byte_numV {v : List UInt8} (h : v.length = 1) : [ofI (numV v)] = v ∧ 0 ≤ numV v ∧ numV v ≤ 255 := by
  match v, h with
  | [b], _ =>
    rw [numV_one]
    exact ⟨by rw [ofI_bv], bv_nn b, by have := bv_lt b; omega⟩
theorem numV_fourB {k : Int} (h0 : 0 ≤ k) (h1 : k < 4294967296) : numV (fourB k) = k := by
  simp only [numV, fourB, List.foldl_cons, List.foldl_nil, bv_ofI]
  omega
theorem fourB_numV {v : List UInt8} (h : v.length = 4) : fourB (numV v) = v := by
  match v, h with
  | [a, b, c, d], _ =>
    have ha := bv_lt a; have hb := bv_lt b; have hc := bv_lt c; have hd := bv_lt d
    have na := bv_nn a; have nb := bv_nn b; have nc := bv_nn c; have nd := bv_nn d
    have e : numV [a, b, c, d] = 16777216 * bv a + 65536 * bv b + 256 * bv c + bv d := by
      show 256 * (256 * (256 * (256 * 0 + bv a) + bv b) + bv c) + bv d = _
      omega
    unfold fourB
    rw [e]
    have q : ∀ (z : Int) (x : UInt8), z % 256 = bv x → ofI z = x := fun z x h => by rw [← ofI_bv x, ← h, ofI_mod]
    rw [q _ a (by omega), q _ b (by omega), q _ c (by omega), q _ d (by omega)]
theorem prot_ident {p : Int} (h : 2 ≤ p ∧ p ≤ 6) : protP (identB p) = p := by
  obtain rfl | rfl | rfl | rfl | rfl : p = 2 ∨ p = 3 ∨ p = 4 ∨ p = 5 ∨ p = 6 := by omega
  all_goals decide
theorem prot_inv {v : List UInt8} (h : ¬ protP v = 0) : v = identB (protP v) ∧ 2 ≤ protP v ∧ protP v ≤ 6 := by
  unfold protP at h ⊢
  (repeat' split)
  all_goals first
    | exact ⟨by assumption, by decide, by decide⟩
    | simp_all
theorem Ns.nil_of {k : Ns} (h : k.len = 0) : k = .nil := by
  cases k with
  | nil => rfl
  | cons _ _ _ _ => simp [Ns.len] at h
theorem chkB_inv {p v r k d : Int} {mb cb eb : Bool} (h : chkB p v r k d mb cb eb = 0) : (2 ≤ p ∧ p ≤ 6) ∧ (1 ≤ v ∧ v ≤ 255) ∧ (0 ≤ r ∧ r ≤ if mb = true then 31 else 0) ∧ (0 ≤ d ∧ d ≤ if cb = true then 255 else 0) ∧ ¬ (cb = true ∧ eb = false ∨ cb = false ∧ ¬ k = 0) := by
  unfold chkB at h
  obtain ⟨M, hM⟩ : ∃ M : Int, (if mb = true then 31 else 0) = M := ⟨_, rfl⟩
  obtain ⟨C, hC⟩ : ∃ C : Int, (if cb = true then 255 else 0) = C := ⟨_, rfl⟩
  rw [hM, hC] at h
  rw [hM, hC]
  by_cases h1 : 2 ≤ p ∧ p ≤ 6
  · rw [if_neg (fun e => e h1)] at h
    by_cases h2 : v < 1 ∨ 255 < v
    · rw [if_pos h2] at h; cases h
    · rw [if_neg h2] at h
      by_cases h3 : r < 0 ∨ M < r
      · rw [if_pos h3] at h; cases h
      · rw [if_neg h3] at h
        by_cases h4 : d < 0 ∨ C < d
        · rw [if_pos h4] at h; cases h
        · rw [if_neg h4] at h
          by_cases h5 : cb = true ∧ eb = false ∨ cb = false ∧ ¬ k = 0
          · rw [if_pos h5] at h; cases h
          · exact ⟨h1, by omega, by omega, by omega, h5⟩
  · rw [if_pos h1] at h; cases h
theorem chk_inv {p v r k d : Int} (h : chkI ⟨p, v, r, k, d⟩ = 0) : (2 ≤ p ∧ p ≤ 6) ∧ (1 ≤ v ∧ v ≤ 255) ∧ (0 ≤ r ∧ (p = 2 ∨ p = 3 → r ≤ 31) ∧ (¬ (p = 2 ∨ p = 3) → r = 0)) ∧ (0 ≤ d ∧ (p = 4 → d ≤ 255) ∧ (¬ p = 4 → d = 0 ∧ k = 0)) ∧ (p = 4 → 0 < k ∧ k < 2147483579) := by
  obtain ⟨h1, h2, h3, h4, h5⟩ := chkB_inv (show chkB p v r k d (decide (p = 2) || decide (p = 3)) (p == 4) (elemP k) = 0 from h)
  refine ⟨h1, h2, ⟨h3.1, fun hm => ?_, fun hm => ?_⟩, ⟨h4.1, fun hp => ?_, fun hp => ?_⟩, fun hp => ?_⟩
  · have e : (decide (p = 2) || decide (p = 3)) = true := by simpa using hm
    rw [e, if_pos rfl] at h3; exact h3.2
  · have e : (decide (p = 2) || decide (p = 3)) = false := by simpa using hm
    rw [e, if_neg (by simp)] at h3; omega
  · subst hp
    simpa using h4.2
  · have e : (p == 4) = false := by simp [hp]
    rw [e] at h4 h5
    rw [if_neg (by simp)] at h4
    exact ⟨by omega, Decidable.not_not.1 fun hk => h5 (.inr ⟨rfl, hk⟩)⟩
  · subst hp
    have hk : elemP k = true := by
      cases e : elemP k with
      | true => rfl
      | false => exact absurd (.inl ⟨rfl, e⟩) h5
    unfold elemP at hk
    simp only [Bool.and_eq_true, decide_eq_true_eq] at hk
    exact hk.1.1
theorem info_back {x : Inf} (h : chkI x = 0) : infoP 48 (kidsI x) = some x := by
  obtain ⟨p, v, r, k, d⟩ := x
  obtain ⟨hp, hv, hr, hd, hk⟩ := chk_inv h
  show infoP 48 (.cons 6 (identB p) .nil (numN v (moreN ⟨p, v, r, k, d⟩))) = some ⟨p, v, r, k, d⟩
  simp only [infoP, numN, not_true_eq_false, if_false, if_true, prot_ident hp]
  rw [fieldsP.eq_def]
  simp only []
  rw [if_neg (by omega)]
  by_cases hm : p = 2 ∨ p = 3
  · have h4 : ¬ p = 4 := by omega
    rw [if_pos hm]
    simp only [moreN, if_pos hm, numN]
    rw [if_pos ⟨trivial, rfl, trivial, rfl⟩, numV_byte (by omega) (by omega), numV_byte (by omega) (by omega), (hd.2.2 h4).1, (hd.2.2 h4).2]
  · rw [if_neg hm]
    have hr0 := hr.2.2 hm
    by_cases h4 : p = 4
    · rw [if_pos h4]
      simp only [moreN, if_neg hm, if_pos h4, numN]
      rw [if_pos ⟨trivial, rfl, trivial, rfl, trivial, rfl⟩, numV_byte (by omega) (by omega), numV_byte (by omega) (by omega), numV_fourB (by omega) (by omega), hr0]
    · rw [if_neg h4]
      simp only [moreN, if_neg hm, if_neg h4]
      rw [if_pos ⟨trivial, rfl⟩, numV_byte (by omega) (by omega), hr0, (hd.2.2 h4).1, (hd.2.2 h4).2]
theorem infos_back : ∀ (l : List Inf), (∀ x ∈ l, chkI x = 0) → infosP (setK l) = some l := by
  intro l
  induction l with
  | nil => intro _; rfl
  | cons x r ih =>
    intro h
    simp only [setK, infosP, info_back (h x (by simp)), ih fun y hy => h y (by simp [hy])]
theorem valid_all : ∀ (l : List Inf) (q : Option Inf), validF q l = 0 → ∀ x ∈ l, chkI x = 0 := by
  intro l
  induction l with
  | nil => intro _ _ x hx; simp at hx
  | cons y r ih =>
    intro q h x hx
    obtain ⟨h1, h2⟩ := validF_cons h
    rcases List.mem_cons.1 hx with rfl | hx
    · exact h1
    · exact ih _ h2 x hx
/-- INFOS ARE READ AS THEY WERE WRITTEN. -/
theorem infos_returns {l : List Inf} (h : validP l = 0) : ∃ b, encI l = .ok b ∧ decI b = .ok l ∧ b.length ≤ 4096 := by
  obtain ⟨h1, h2, h3⟩ := encI_ok h
  refine ⟨_, h1, ?_, h2⟩
  have hp := codes_parseP true _ _ (enc_codes true (Ns.cons 49 [] (setK l) .nil) (by omega)) (top_chk l) h3 h2
  have hv : validF none l = 0 := by
    have h9 := h
    unfold validP at h9
    split at h9
    · cases h9
    · exact h9
  unfold decI
  rw [hp]
  simp only [if_true, infos_back l (valid_all l none hv), if_pos h]
theorem info_inv {t : Int} {K : Ns} {x : Inf} (h : infoP t K = some x) (hk : K.prims) : t = 48 ∧ K = kidsI x := by
  unfold infoP at h
  split at h
  · cases h
  · rename_i ht
    refine ⟨by omega, ?_⟩
    split at h
    · rename_i t0 v0 k0 t1 v1 k1 r
      split at h
      · rename_i h6
        subst h6
        obtain ⟨g0, g1, gr⟩ := hk
        have e0 : k0 = .nil := Ns.nil_of (g0 (by omega))
        subst e0
        rw [fieldsP.eq_def] at h
        simp only [] at h
        split at h
        · cases h
        · rename_i hp
          obtain ⟨hv, hp2, hp6⟩ := prot_inv hp
          obtain ⟨p, hpp⟩ : ∃ p, protP v0 = p := ⟨_, rfl⟩
          rw [hpp] at h hv hp2 hp6
          subst hv
          split at h
          · rename_i hm
            split at h
            · rename_i t2 v2 k2
              split at h
              · rename_i hc
                obtain ⟨rfl, c1, rfl, c2⟩ := hc
                injection h with h
                subst h
                have e1 : k1 = .nil := Ns.nil_of (g1 (by omega))
                have e2 : k2 = .nil := Ns.nil_of (gr.1 (by omega))
                subst e1 e2
                simp only [kidsI, moreN, if_pos hm, numN, (byte_numV c1).1, (byte_numV c2).1]
              · cases h
            · cases h
          · rename_i hm
            split at h
            · rename_i h4
              split at h
              · rename_i t2 v2 k2 t3 v3 k3
                split at h
                · rename_i hc
                  obtain ⟨rfl, c1, rfl, c2, rfl, c3⟩ := hc
                  injection h with h
                  subst h
                  have e1 : k1 = .nil := Ns.nil_of (g1 (by omega))
                  have e2 : k2 = .nil := Ns.nil_of (gr.1 (by omega))
                  have e3 : k3 = .nil := Ns.nil_of (gr.2.1 (by omega))
                  subst e1 e2 e3
                  simp only [kidsI, moreN, if_neg hm, if_pos h4, numN, (byte_numV c1).1, fourB_numV c2, (byte_numV c3).1]
                · cases h
              · cases h
            · rename_i h4
              split at h
              · split at h
                · rename_i hc
                  obtain ⟨rfl, c1⟩ := hc
                  injection h with h
                  subst h
                  have e1 : k1 = .nil := Ns.nil_of (g1 (by omega))
                  subst e1
                  simp only [kidsI, moreN, if_neg hm, if_neg h4, numN, (byte_numV c1).1]
                · cases h
              · cases h
      · cases h
    · cases h
theorem set_inv : ∀ (K : Ns) (d : Nat) (l : List Inf), K.chk d = 0 → infosP K = some l → K = setK l := by
  intro K
  induction K with
  | nil =>
    intro d l _ h
    injection h with h
    subst h
    rfl
  | cons t v k r _ ih =>
    intro d l hc h
    obtain ⟨_, _, c2, _, c4, c5⟩ := chk_cons hc
    unfold infosP at h
    split at h
    · cases h
    · rename_i x hx
      split at h
      · cases h
      · rename_i m hm
        injection h with h
        subst h
        obtain ⟨rfl, rfl⟩ := info_inv hx (prims_chk k _ c4)
        have e := c2 rfl
        subst e
        rw [ih d m c5 hm]
        rfl
/-- INFOS ARE WRITTEN AS THEY WERE READ. -/
theorem infos_written {c : List UInt8} {n : List Inf} (h : decI c = .ok n) : encI n = .ok c := by
  unfold decI at h
  split at h
  · cases h
  · rename_i t v k hp
    split at h
    · rename_i ht
      subst ht
      split at h
      · cases h
      · rename_i l hl
        split at h
        · rename_i hv
          injection h with h
          subst h
          have he := (strict_parse hp).1
          have hc : (Ns.cons 49 v k .nil).chk 1 = 0 := by
            have h9 := he
            unfold encP at h9
            split at h9
            · cases h9
            · omega
          obtain ⟨_, _, c2, _, c4, _⟩ := chk_cons hc
          have e := c2 rfl
          subst e
          have ek := set_inv k _ l c4 hl
          rw [ek] at he
          unfold encI
          rw [if_pos hv]
          exact he
        · cases h
    · cases h
  · cases h
end Go.Proofs.YtdpiehhblflacaaDoor
/- Layer 14: SecurityinfoReturns: infos are read as they were written, and written as they were read. -/
namespace Go.Proofs.YtdpiehhblflacaaDoor
open Go.RowKit Go.Deep

/-- What stands beside the dice. -/
def BaseI (w : World) (n : Nat) (wx : World) : Prop := Die (w.heap.size + 1) wx w.heap.size n ∧ Below w.heap.size w wx
theorem BaseI.dice {w wx wy : World} {n : Nat} (h : BaseI w n wx) (hd : DiePost (w.heap.size + 1) wx w.heap.size n wy) : BaseI w n wy :=
  ⟨hd.1, h.2.grown hd.2 h.2.size (fun k e => by injection e with e; omega)⟩
theorem BaseI.on {w wx wy : World} {n : Nat} (h : BaseI w n wx) (hb : Below wx.heap.size wx wy) : BaseI w n wy :=
  ⟨h.1.below (hb.mono h.1.le), h.2.trans (hb.mono h.2.size)⟩
theorem BaseI.lt {w wx : World} {n : Nat} (h : BaseI w n wx) : w.heap.size < wx.heap.size := h.1.le
theorem BaseI.draw {w wx : World} {n : Nat} (h : BaseI w n wx) (k : Nat) : BaseI w n (wx.drewN k) := h.on (below_drewN (Below.refl _ _) k)
theorem BaseI.tab {w wx : World} {n : Nat} (h : BaseI w n wx) (hT : TabE w) : TabE wx := hT.below h.2 hT.lt
/-- Away from the dice. -/
abbrev OffD (p : Nat) (w : World) : Nat → Prop := fun b => b < w.heap.size ∧ b ≠ p
theorem InfS.on {w w' : World} {p : Nat} {v : Value} {l : List Inf} (h : InfS w (OffD p w) v l) (hb : Below w.heap.size w w') : InfS w' (OffD p w') v l :=
  h.keep fun b hs hl => ⟨hb.block b hl, Nat.lt_of_lt_of_le hs.1 hb.size, hs.2⟩
theorem BsS.onI {w w' : World} {p : Nat} {v : Value} {l : List UInt8} (h : BsS w (OffD p w) v l) (hb : Below w.heap.size w w') : BsS w' (OffD p w') v l :=
  h.keep fun b hs hl => ⟨hb.block b hl, Nat.lt_of_lt_of_le hs.1 hb.size, hs.2⟩
theorem InfS.diceI {B n : Nat} {w w' : World} {p : Nat} {v : Value} {l : List Inf} (h : InfS w (OffD p w) v l) (hd : DiePost B w p n w') : InfS w' (OffD p w') v l :=
  h.keep fun b hs hl => ⟨hd.2.block b hl (by intro e; injection e with e; exact hs.2 e), Nat.lt_of_lt_of_le hs.1 hd.2.size, hs.2⟩
theorem BsS.diceI {B n : Nat} {w w' : World} {p : Nat} {v : Value} {l : List UInt8} (h : BsS w (OffD p w) v l) (hd : DiePost B w p n w') : BsS w' (OffD p w') v l :=
  h.keep fun b hs hl => ⟨hd.2.block b hl (by intro e; injection e with e; exact hs.2 e), Nat.lt_of_lt_of_le hs.1 hd.2.size, hs.2⟩
theorem InfS.madeI {w w' : World} {p : Nat} {v : Value} {l : List Inf} (h : InfS w' (New w w') v l) (hp : p < w.heap.size) : InfS w' (OffD p w') v l :=
  h.keep fun b hs hl => ⟨rfl, hl, fun e => by have := hs.1; omega⟩
theorem BsS.madeI {w w' : World} {p : Nat} {v : Value} {l : List UInt8} (h : BsS w' (New w w') v l) (hp : p < w.heap.size) : BsS w' (OffD p w') v l :=
  h.keep fun b hs hl => ⟨rfl, hl, fun e => by have := hs.1; omega⟩
theorem BsS.bsI {w : World} {p : Nat} {v : Value} {l : List UInt8} (h : BsS w (OffD p w) v l) : Bs w w.heap.size v l := h.keep fun _ hs _ => ⟨rfl, hs.1⟩
theorem decI_err {b : List UInt8} {er : Int} (h : decI b = .error er) : er ≠ 0 := by
  unfold decI at h
  split at h
  · rename_i hp
    injection h with h
    subst h
    exact parseP_err0 hp
  · split at h
    · split at h
      · injection h with h; omega
      · split at h
        · cases h
        · rename_i hv
          injection h with h
          rw [← h]; exact hv
    · injection h with h; omega
  · injection h with h; omega
theorem InfsOut.err {er : Int} {w : World} {e : Ending} {w' : World} (h : InfsOut (.error er) w e w') : ∃ a c, e = .returned (.tuple #[.slice a 0 c, .int .i64 er]) ∧ Below w.heap.size w w' := by
  obtain ⟨v, h1, h2, h3⟩ := h
  obtain ⟨a, c, rfl⟩ := h2.form
  exact ⟨a, c, h1, h3⟩
set_option maxRecDepth 100000 in
set_option maxHeartbeats 4000000 in
theorem securityinfoReturns_law (v : Value) (n : Nat) (w : World) (hT : TabE w) (hv : IntsS w (· < w.heap.size) v n) : Calls Tryd.prog 5 #[v] w fun e w' => e = .returned (.bool true) ∧ Below w.heap.size w w' := by
  have HL := Lib.hid (light_any _ v n w hv)
  have HR := Lib.hid (roll_any v n w hv)
  have HT := Lib.hid hT
  obtain ⟨va, vc, rfl⟩ := hv.form
  clear hv hT
  by_cases hn : (n : Int) ≤ 400
  · have hn1 : decide ((n : Int) ≤ 400) = true := decide_eq_true hn
    rw [hn1] at HL
    clear hn hn1
    go_enter Tryd.func5, Tryd.ntmps5
    go_upto_region 10 with (first
      | (go_at_call 22; refine (spoil_any _ _ n bb _ _ HB7.out (by have := HBL.out; omega) B7.out.1).mono ?_; rintro e w8 ⟨v8, cc, rfl, h8, hl8, hd⟩; obtain ⟨a8, c8, rfl⟩ := h8.form2; have HC8 := Lib.hid (h8.madeI B7.out.lt); have B8 := Lib.hid (B7.out.dice hd); have HCL : Hid (cc.length ≤ 4097) := (by have := HBL.out; show cc.length ≤ 4097; omega); clear hd h8 hl8)
      | (go_at_call 16; refine (isame_any _ _ _ _ _ _ _ HI6.out HM6.out).mono ?_; rintro e w7 ⟨rfl, nd, hw7⟩; have hb7 : Below w6.heap.size w6 w7 := (by rw [hw7]; exact below_drewN (Below.refl _ _) nd); have B7 := Lib.hid (B6.out.on hb7); have HB7 := Lib.hid (HB6.out.onI hb7); clear hw7 hb7; rw [dec_self])
      | (go_at_call 12; refine (awakeI_any _ (B5.out.tab HT.out)).mono ?_; rintro e w6 ⟨rfl, hb⟩; have HI6 := Lib.hid (HI5.out.on hb); have HB6 := Lib.hid (HB5.out.onI hb); have HM6 := Lib.hid (HM5.out.on hb); have B6 := Lib.hid (B5.out.on hb); clear hb)
      | (go_at_call 10; refine (idecode_any bb _ _ (B4.out.tab HT.out) HB4.out.bsI).mono ?_; rintro e w5 h5; rw [HDE.out] at h5; obtain ⟨a5, c5, rfl, h5, hb⟩ := h5.got; have HI5 := Lib.hid (HI4.out.on hb); have HB5 := Lib.hid (HB4.out.onI hb); have HM5 := Lib.hid (h5.madeI B4.out.lt); have B5 := Lib.hid (B4.out.on hb); clear hb h5)
      | (go_at_call 8; refine (iencode_any l _ _ _ (B3.out.tab HT.out) HI3.out).mono ?_; rintro e w4 h4; rw [HEN.out] at h4; obtain ⟨a4, c4, rfl, h4, hb⟩ := h4.got; have HI4 := Lib.hid (HI3.out.on hb); have HB4 := Lib.hid (h4.madeI B3.out.lt); have B4 := Lib.hid (B3.out.on hb); clear hb h4)
      | (go_at_call 19; refine (infos_any _ _ n _ B1.out.1).mono ?_; rintro e w3 ⟨v3, rfl, l, hi, hl, hok, hd⟩; obtain ⟨bb, hen, hde, hbl⟩ := infos_returns hok; obtain ⟨a3, c3, rfl⟩ := hi.form; have HEN := Lib.hid hen; have HDE := Lib.hid hde; have HBL := Lib.hid hbl; have HI3 := Lib.hid (hi.madeI B1.out.lt); have B3 := Lib.hid (B1.out.dice hd); clear hi hl hok hd hen hde hbl)
      | (go_at_call 17; refine HL.out.mono ?_; rintro e w' ⟨rfl, hw'⟩; rw [hw']; clear hw' w')
      | (go_at_call 18; refine HR.out.mono ?_; rintro e w1 ⟨rfl, hd, hb⟩; have B1 : Hid (BaseI w n w1) := ⟨hd, hb⟩; clear hd hb))
    cases hrd : decI cc with
    | error er =>
      have HRD := Lib.hid hrd
      have her := decI_err hrd
      have her' : (er != 0) = true := by simp [her]
      clear hrd her
      go_wp2_with (go_at_call 10; refine (idecode_any cc _ _ (B8.out.tab HT.out) HC8.out.bsI).mono ?_; rintro e w9 h9; rw [HRD.out] at h9; obtain ⟨a9, c9, rfl, hb⟩ := h9.err; have B9 := Lib.hid (B8.out.on hb); clear hb h9)
      go_ret
      exact ⟨rfl, B9.out.2⟩
    | ok nn =>
      have HRD := Lib.hid hrd
      have HWR := Lib.hid (infos_written hrd)
      clear hrd
      go_wp2_with (first
        | (go_at_call 15; refine (same_any _ _ _ _ _ _ _ HX10.out HC10.out).mono ?_; rintro e w11 ⟨rfl, nd, hw11⟩; have B11 : Hid (BaseI w n w11) := (by rw [hw11]; exact B10.out.draw nd); clear hw11; rw [dec_self])
        | (go_at_call 8; refine (iencode_any nn _ _ _ (B9.out.tab HT.out) HN9.out).mono ?_; rintro e w10 h10; rw [HWR.out] at h10; obtain ⟨a10, c10, rfl, h10, hb⟩ := h10.got; have HX10 := Lib.hid h10; have HC10 := Lib.hid (HC9.out.onI hb); have B10 := Lib.hid (B9.out.on hb); clear hb h10)
        | (go_at_call 10; refine (idecode_any cc _ _ (B8.out.tab HT.out) HC8.out.bsI).mono ?_; rintro e w9 h9; rw [HRD.out] at h9; obtain ⟨a9, c9, rfl, h9, hb⟩ := h9.got; have HN9 := Lib.hid (h9.madeI B8.out.lt); have HC9 := Lib.hid (HC8.out.onI hb); have B9 := Lib.hid (B8.out.on hb); clear hb h9))
      go_ret
      exact ⟨rfl, B11.out.2⟩
  · have hn1 : decide ((n : Int) ≤ 400) = false := decide_eq_false hn
    rw [hn1] at HL
    clear hn hn1
    go_enter Tryd.func5, Tryd.ntmps5
    go_wp2_with (first
      | (go_at_call 17; refine HL.out.mono ?_; rintro e w' ⟨rfl, hw'⟩; rw [hw']; clear hw' w')
      | (go_at_call 12; refine (awakeI_any w HT.out).mono ?_; rintro e w2 ⟨rfl, h2⟩; have H2 := Lib.hid h2; clear h2))
    go_ret
    exact ⟨rfl, H2.out⟩
end Go.Proofs.YtdpiehhblflacaaDoor
/- Layer 14: append of all infos of a slice onto a row of the call's own. -/
namespace Go.Proofs.YtdpiehhblflacaaDoor
open Go.RowKit Go.Deep

theorem infs_cells {w : World} {b : Nat} : ∀ (m : List Inf) (off : Nat), InfsAt w m b off → ∀ j u, (infV m)[j]? = some u → w.cell? ⟨b, off + j, none⟩ = some u := by
  intro m
  induction m with
  | nil => intro off _ j u h; simp [infV] at h
  | cons x r ih =>
    intro off ⟨⟨h0, h1, h2, h3, h4⟩, _, hr⟩ j u h
    match j, h with
    | 0, h => rw [← show _ = u from Option.some.inj h]; exact h0
    | 1, h => rw [← show _ = u from Option.some.inj h]; exact h1
    | 2, h => rw [← show _ = u from Option.some.inj h]; exact h2
    | 3, h => rw [← show _ = u from Option.some.inj h]; exact h3
    | 4, h => rw [← show _ = u from Option.some.inj h]; exact h4
    | j + 5, h =>
      have := ih (off + 5) hr j u (by simpa [infV] using h)
      rwa [show off + (j + 5) = off + 5 + j by omega]
theorem infV_one (m : List Inf) : ∀ u ∈ infV m, u.oneCell' = true := by
  induction m with
  | nil => intro u h; simp [infV] at h
  | cons x r ih =>
    intro u h
    simp only [infV, List.mem_cons] at h
    rcases h with rfl | rfl | rfl | rfl | rfl | h
    all_goals first | rfl | exact ih u h
/-- What the append leaves. -/
structure MoreI (w w' : World) (base : Nat) (o o' : Value) (l : List Inf) : Prop where
  own : OwnI w' base o' l
  below : Below base w w'
  grown : w.grownBy w' o.ownBlock
  at_ : o'.ownBlock = o.ownBlock ∨ o'.ownBlock = some w.heap.size
theorem wpList_moreI {ops : Array Oper} {rest : List Oper} {op : Oper} {a : Act} {w : World} {Q : Exit → Act → World → Prop} (hgd : op.guard = none) (s x : Operand)
    (ho : op.op = .call { callee := .builtin .append, args := #[s, x], argTypes := #[22, 22] })
    (base : Nat) (o : Value) (l : List Inf) (hs : a.eval s = o) (hown : OwnI w base o l) (m : List Inf) (S : Nat → Prop) (A : Option Addr) (c : Nat) (hx : a.eval x = .slice A m.length c) (hm : InfS w S (.slice A m.length c) m)
    (hl : l.length + m.length ≤ 1000000000000) (hbase : base ≤ w.heap.size)
    (h : ∀ o' w', MoreI w w' base o o' (l ++ m) → wpList Tryd.prog ops Q rest (a.put op.dst o') w') : wpList Tryd.prog ops Q (op :: rest) a w := by
  obtain ⟨i, hinfo, hzz⟩ := Option.map_eq_some_iff.1 infoInfo
  simp only [Prod.mk.injEq] at hzz
  obtain ⟨hz, hsize, hbb⟩ := hzz
  obtain ⟨A', c', e, _, _, _, hc⟩ := hm
  injection e with e1 _ e3
  subst e1 e3
  have fin : ∀ (ad : Addr), A = some ad → (∀ j u, (infV m)[j]? = some u → w.cell? (ad.add j) = some u) → wpList Tryd.prog ops Q (op :: rest) a w := by
    intro ad hA hcell
    subst hA
    refine wpList_plain hgd fun K hK => ?_
    obtain ⟨v', w', hr, g1, g2, _, g3⟩ := run_append_own_at (P := Tryd.prog) w base 22 op.type 45 i _ 5 40 Tryd.underlying22 hinfo hz hsize hbb z5 (by omega) o l.length (infV l) hown ad m.length c (infV m) (infV_len m) hcell (infV_one m) (by unfold maxLen; omega) (by omega) hbase
    unfold Oper.wp execOp
    simp only [ho, resolve, invoke, builtin, Sem.run_bind, Sem.run_pure, Result.andThen_ok, List.map_toArray, List.map_cons, List.map_nil, hs, hx, hr]
    refine hK _ _ (h v' w' ⟨?_, ⟨g2.os, g2.tape, g2.output, g2.size, fun b hb' => g2.block b (by omega) fun e => ?_⟩, g2, g3⟩)
    · show w'.ownsRow base 45 5 v' (l ++ m).length (infV (l ++ m))
      rw [infV_app, List.length_append]
      exact g1
    · have := (hown.lt b e.symm).1
      omega
  rcases Nat.eq_zero_or_pos m.length with h0 | h0
  · have hm0 : m = [] := List.eq_nil_of_length_eq_zero h0
    subst hm0
    rcases A with _ | ad
    · refine wpList_plain hgd fun K hK => ?_
      have hrun := run_append_nil (P := Tryd.prog) w base 22 op.type 45 i 5 Tryd.underlying22 hinfo o l.length (infV l) hown c
      unfold Oper.wp execOp
      simp only [ho, resolve, invoke, builtin, Sem.run_bind, Sem.run_pure, Result.andThen_ok, List.map_toArray, List.map_cons, List.map_nil, hs, hx, List.length_nil, hrun]
      exact hK _ _ (h _ _ ⟨by rw [List.append_nil]; exact hown, Below.refl _ _, World.grownBy.refl _ _, .inl rfl⟩)
    · exact fin ad rfl (fun j u hu => by simp [infV] at hu)
  · obtain ⟨b, off, hA, _, _, hat⟩ := hc h0
    refine fin _ hA fun j u hu => ?_
    have e : (⟨b, off, none⟩ : Addr).add j = ⟨b, off + j, none⟩ := by unfold Addr.add; split <;> simp_all
    rw [e]; exact infs_cells m off hat j u hu
end Go.Proofs.YtdpiehhblflacaaDoor
/- Layer 14: made.Dice: OddInfos. -/
namespace Go.Proofs.YtdpiehhblflacaaDoor
open Go.RowKit Go.Deep

theorem rowset_i {w : World} {base g cap n size i : Nat} {e : TypeId} {xs : List Value} {u : Value} (h : w.ownsRow base e size (.slice (some ⟨g, 0, none⟩) n cap) n xs) :
    (w.setCell ⟨g, i, none⟩ u).ownsRow base e size (.slice (some ⟨g, 0, none⟩) n cap) n (xs.set i u) := by
  obtain ⟨h1, h2⟩ := h
  refine ⟨by simpa using h1, ?_⟩
  rcases h2 with ⟨h2, _⟩ | ⟨g', cap', cur, hv, hb, hh, hn, hm, hs, ht⟩
  · cases h2
  · injection hv with e1 _ e3
    injection e1 with e1
    injection e1 with e1 _
    subst e1 e3
    refine .inr ⟨g, cap, cur.setIfInBounds i u, rfl, hb, ?_, hn, hm, by simpa using hs, ?_⟩
    · show (w.heap.modify g _)[g]? = _
      rw [Array.getElem?_modify, if_pos rfl, hh]
      rfl
    · rw [Array.toList_setIfInBounds, List.take_set, ht]
/-- One number of one info. -/
def Inf.upd (x : Inf) (f : Nat) (z : Int) : Inf := if f = 0 then { x with p := z } else if f = 1 then { x with v := z } else if f = 2 then { x with r := z } else if f = 3 then { x with k := z } else { x with d := z }
theorem infV_set (f : Nat) (hf : f < 5) (z : Int) : ∀ (l : List Inf) (k : Nat), k < l.length → ∃ l', l'.length = l.length ∧ infV l' = (infV l).set (k * 5 + f) (.int .i64 z) ∧ ((∀ x ∈ l, x.fits) → I64in z → ∀ x ∈ l', x.fits) := by
  intro l
  induction l with
  | nil => intro k h; simp at h
  | cons x r ih =>
    intro k h
    cases k with
    | zero =>
      refine ⟨x.upd f z :: r, rfl, ?_, fun hx hz y hy => ?_⟩
      · obtain rfl | rfl | rfl | rfl | rfl : f = 0 ∨ f = 1 ∨ f = 2 ∨ f = 3 ∨ f = 4 := by omega
        all_goals rfl
      · rcases List.mem_cons.1 hy with rfl | hy
        · obtain ⟨h0, h1, h2, h3, h4⟩ := hx x (by simp)
          obtain rfl | rfl | rfl | rfl | rfl : f = 0 ∨ f = 1 ∨ f = 2 ∨ f = 3 ∨ f = 4 := by omega
          · exact ⟨hz, h1, h2, h3, h4⟩
          · exact ⟨h0, hz, h2, h3, h4⟩
          · exact ⟨h0, h1, hz, h3, h4⟩
          · exact ⟨h0, h1, h2, hz, h4⟩
          · exact ⟨h0, h1, h2, h3, hz⟩
        · exact hx y (by simp [hy])
    | succ k =>
      obtain ⟨l', h1, h2, h3⟩ := ih k (by simpa using h)
      refine ⟨x :: l', by simp [h1], ?_, fun hx hz y hy => ?_⟩
      · simp only [infV, h2, show (k + 1) * 5 + f = k * 5 + f + 5 by omega, List.set_cons_succ]
      · rcases List.mem_cons.1 hy with rfl | hy
        · exact hx _ (by simp)
        · exact h3 (fun q hq => hx q (by simp [hq])) hz y hy
/-- The row in its block: the cells of one info. -/
theorem OwnI.at {w : World} {base : Nat} {A : Option Addr} {c k : Nat} {l : List Inf} (h : OwnI w base (.slice A l.length c) l) (hk : k < l.length) : ∃ g x, A = some ⟨g, 0, none⟩ ∧ x ∈ l ∧ base ≤ g ∧ g < w.heap.size ∧
    w.cell? ⟨g, k * 5, none⟩ = some (.int .i64 x.p) ∧ w.cell? ⟨g, k * 5 + 1, none⟩ = some (.int .i64 x.v) ∧ w.cell? ⟨g, k * 5 + 2, none⟩ = some (.int .i64 x.r) ∧ w.cell? ⟨g, k * 5 + 3, none⟩ = some (.int .i64 x.k) ∧ w.cell? ⟨g, k * 5 + 4, none⟩ = some (.int .i64 x.d) ∧ (∀ j, w.frozen? ⟨g, j, none⟩ = false) := by
  obtain ⟨g, rfl⟩ : ∃ g, A = some ⟨g, 0, none⟩ := by
    rcases h.2 with ⟨_, h0⟩ | ⟨g, cap, cur, hv, _⟩
    · omega
    · injection hv with e1 _ _; exact ⟨g, e1⟩
  have hfz : ∀ j, w.frozen? ⟨g, j, none⟩ = false := fun j => by
    rcases h.2 with ⟨e, _⟩ | ⟨g', cap', cur, hv, _, hh, _⟩
    · cases e
    · injection hv with e1 _ _
      injection e1 with e1
      injection e1 with e1 _
      subst e1
      simp [World.frozen?, hh]
  have hgb := World.ownsRow.lt h g rfl
  have hc := fun j u hu => World.ownsRow.cells h (g := g) rfl j u hu
  have ea : ∀ j, (⟨g, 0, none⟩ : Addr).add j = ⟨g, j, none⟩ := fun j => by unfold Addr.add; split <;> simp_all
  have at_ : ∀ (l : List Inf) (k : Nat) (hk : k < l.length) (f : Nat), f < 5 → (infV l)[k * 5 + f]? = (infV [l[k]])[f]? := by
    intro l
    induction l with
    | nil => intro k hk; simp at hk
    | cons x r ih =>
      intro k hk f hf
      cases k with
      | zero =>
        obtain rfl | rfl | rfl | rfl | rfl : f = 0 ∨ f = 1 ∨ f = 2 ∨ f = 3 ∨ f = 4 := by omega
        all_goals rfl
      | succ k =>
        have := ih k (by simpa using hk) f hf
        rw [show (k + 1) * 5 + f = k * 5 + f + 5 by omega]
        simpa [infV] using this
  have q := fun f hf u hu => hc (k * 5 + f) u ((at_ l k hk f hf).trans hu)
  refine ⟨g, l[k], rfl, List.getElem_mem hk, hgb.1, hgb.2, ?_, ?_, ?_, ?_, ?_, hfz⟩
  · have := q 0 (by omega) _ rfl; rwa [ea] at this
  · have := q 1 (by omega) _ rfl; rwa [ea] at this
  · have := q 2 (by omega) _ rfl; rwa [ea] at this
  · have := q 3 (by omega) _ rfl; rwa [ea] at this
  · have := q 4 (by omega) _ rfl; rwa [ea] at this
theorem OwnI.set {w : World} {base g c k f : Nat} {z : Int} {l : List Inf} (h : OwnI w base (.slice (some ⟨g, 0, none⟩) l.length c) l) (hk : k < l.length) (hf : f < 5) (hz : I64in z) (hx : ∀ x ∈ l, x.fits) :
    ∃ l', l'.length = l.length ∧ (∀ x ∈ l', x.fits) ∧ OwnI (w.setCell ⟨g, k * 5 + f, none⟩ (.int .i64 z)) base (.slice (some ⟨g, 0, none⟩) l.length c) l' := by
  obtain ⟨l', h1, h2, h3⟩ := infV_set f hf z l k hk
  refine ⟨l', h1, h3 hx hz, ?_⟩
  show World.ownsRow _ _ _ _ _ l'.length (infV l')
  rw [h1, h2]
  exact rowset_i h
theorem OwnI.at2 {w : World} {base g c k : Nat} {l : List Inf} (h : OwnI w base (.slice (some ⟨g, 0, none⟩) l.length c) l) (hk : k < l.length) : ∃ x : Inf, x ∈ l ∧ x = x ∧
    w.cell? ⟨g, k * 5, none⟩ = some (.int .i64 x.p) ∧ w.cell? ⟨g, k * 5 + 1, none⟩ = some (.int .i64 x.v) ∧ w.cell? ⟨g, k * 5 + 2, none⟩ = some (.int .i64 x.r) ∧ w.cell? ⟨g, k * 5 + 3, none⟩ = some (.int .i64 x.k) ∧ w.cell? ⟨g, k * 5 + 4, none⟩ = some (.int .i64 x.d) ∧ (∀ j, w.frozen? ⟨g, j, none⟩ = false) := by
  obtain ⟨g', x, e, hx, _, _, h⟩ := h.at hk
  injection e with e
  injection e with e _
  subst e
  exact ⟨x, hx, rfl, h⟩
theorem ints_lit {w : World} {g i : Nat} (C : Array Value) {t : TypeId} (hC : ∀ u ∈ C.toList, ∃ z, u = .int .i64 z ∧ I64in z) (h : w.heap[g]? = some (.cells C t (0, 0))) (hi : i < C.size) : ∃ z, w.cell? ⟨g, i, none⟩ = some (.int .i64 z) ∧ w.frozen? ⟨g, i, none⟩ = false ∧ I64in z := by
  obtain ⟨z, hz, hz2⟩ := hC C[i] (by simp)
  exact ⟨z, by rw [cell_of_row _ _ _ _ _ _ h, ← hz]; simp [hi], by simp [World.frozen?, h], hz2⟩
theorem lit_kept {B p n : Nat} {w w5 : World} {C : Array Value} {t : TypeId} (hd : DiePost B (w.alloc (.cells C t)) p n w5) (hB : B ≤ w.heap.size) : w5.heap[w.heap.size]? = some (.cells C t (0, 0)) :=
  (hd.2.block w.heap.size (by simp) (by intro e; injection e with e; have := hd.1.lt; omega)).trans (heap_alloc_new _ _)
/-- What OddInfos answers. -/
def OddIOut (B : Nat) (w : World) (p n : Nat) (m : Nat) (e : Ending) (w' : World) : Prop :=
  ∃ v', e = .returned v' ∧ ∃ l', InfS w' (New w w') v' l' ∧ l'.length ≤ m + 18 ∧ DiePost B w p n w'
theorem odd_done {B : Nat} {w wi : World} {p n m : Nat} {o : Value} {l : List Inf} (h : IRow B w wi p n o l) (hf : ∀ x ∈ l, x.fits) (hl : l.length ≤ m + 18) (hm : m ≤ 1000000) : OddIOut B w p n m (.returned o) wi :=
  ⟨o, rfl, l, (OwnI.infs h.1 hf (by omega)).keep fun b hs _ => ⟨rfl, hs⟩, hl, h.2.1⟩
theorem odd_set {B : Nat} {w wi : World} {p n m g c k f : Nat} {z : Int} {l : List Inf} (h : IRow B w wi p n (.slice (some ⟨g, 0, none⟩) l.length c) l) (hk : k < l.length) (hf : f < 5) (hz : I64in z) (hx : ∀ x ∈ l, x.fits) (hg : w.heap.size ≤ g) (hl : l.length ≤ m + 18) (hm : m ≤ 1000000) :
    OddIOut B w p n m (.returned (.slice (some ⟨g, 0, none⟩) l.length c)) (wi.setCell ⟨g, k * 5 + f, none⟩ (.int .i64 z)) := by
  obtain ⟨l', h1, h2, h3⟩ := OwnI.set h.1 hk hf hz hx
  obtain ⟨_, h4, h5⟩ := h
  have hp := h4.1.lt
  exact odd_done ⟨h3, ⟨h4.1.keep (by simp [World.setCell]) fun b hb => Below.heap_setCell _ _ _ _ (by simp only; omega), only_new h4.2 (only_setCell (World.grownBy.refl _ _) (.inl rfl) _) hg⟩, h5⟩ h2 (by omega) hm
theorem IRow.more {B : Nat} {w wi wj : World} {p n : Nat} {o o' : Value} {l l' : List Inf} (h : IRow B w wi p n o l) (g : MoreI wi wj w.heap.size o o' l') : IRow B w wj p n o' l' := by
  obtain ⟨h1, ⟨h2, h3⟩, h4⟩ := h
  exact ⟨g.own, ⟨h2.below (g.below.mono h4), only_row h3 g.grown fun b e => (World.ownsRow.lt h1 b e).1⟩, h4⟩
theorem infsAt_fits {w : World} {b : Nat} : ∀ (l : List Inf) (off : Nat), InfsAt w l b off → ∀ x ∈ l, x.fits := by
  intro l
  induction l with
  | nil => intro _ _ x h; simp at h
  | cons y r ih =>
    intro off ⟨_, h2, h3⟩ x h
    rcases List.mem_cons.1 h with rfl | h
    · exact h2
    · exact ih _ h3 x h
theorem InfS.fits {w : World} {S : Nat → Prop} {v : Value} {l : List Inf} (h : InfS w S v l) : ∀ x ∈ l, x.fits := by
  intro x hx
  obtain ⟨_, _, _, _, _, _, h4⟩ := h
  obtain ⟨b, off, _, _, _, hat⟩ := h4 (List.length_pos_of_mem hx)
  exact infsAt_fits l off hat x hx
theorem infs_lit {w : World} {S : Nat → Prop} {g : Nat} {t : TypeId} {x : Inf} (h : w.heap[g]? = some (.cells #[.int .i64 x.p, .int .i64 x.v, .int .i64 x.r, .int .i64 x.k, .int .i64 x.d] t (0, 0))) (hS : S g) (hx : x.fits) : InfS w S (.slice (some ⟨g, 0, none⟩) 1 1) [x] :=
  ⟨_, 1, rfl, Nat.le_refl _, by omega, by simp, fun _ => ⟨g, 0, rfl, hS, (Array.getElem?_eq_some_iff.1 h).1, ⟨by rw [cell_of_row _ _ _ _ _ _ h]; rfl, by rw [cell_of_row _ _ _ _ _ _ h]; rfl, by rw [cell_of_row _ _ _ _ _ _ h]; rfl, by rw [cell_of_row _ _ _ _ _ _ h]; rfl, by rw [cell_of_row _ _ _ _ _ _ h]; rfl⟩, hx, trivial⟩⟩
theorem IRow.grewI {B : Nat} {w wi wj : World} {p n : Nat} {o o' : Value} {l l' : List Inf} (h : IRow B w wi p n o l) (g : GrewI wi wj w.heap.size o o' l') : IRow B w wj p n o' l' := by
  obtain ⟨h1, ⟨h2, h3⟩, h4⟩ := h
  exact ⟨g.own, ⟨h2.below (g.below.mono h4), ⟨g.below.os.trans h3.os, g.below.tape.trans h3.tape, g.below.output.trans h3.output, Nat.le_trans h3.size g.below.size, fun k hk hne => (g.below.block k hk).trans (h3.block k hk hne)⟩⟩, h4⟩
theorem wpList_info2 {ops : Array Oper} {rest : List Oper} {op : Oper} {a : Act} {w : World} {Q : Exit → Act → World → Prop} (hgd : op.guard = none) (s x : Operand)
    (ho : op.op = .call { callee := .builtin .append, args := #[s, x], argTypes := #[22, 22] })
    (base : Nat) (o : Value) (l : List Inf) (y z : Inf) (hs : a.eval s = o) (hown : OwnI w base o l) (ty : TypeId) (g : Nat) (hx : a.eval x = .slice (some ⟨g, 0, none⟩) 2 2) (hg : w.heap[g]? = some (.cells #[.int .i64 y.p, .int .i64 y.v, .int .i64 y.r, .int .i64 y.k, .int .i64 y.d, .int .i64 z.p, .int .i64 z.v, .int .i64 z.r, .int .i64 z.k, .int .i64 z.d] ty (0, 0))) (hl : l.length ≤ 1000000000000) (hbase : base ≤ w.heap.size)
    (h : ∀ o' w', GrewI w w' base o o' (l ++ [y, z]) → wpList Tryd.prog ops Q rest (a.put op.dst o') w') :
    wpList Tryd.prog ops Q (op :: rest) a w := by
  refine wpList_row (w := w) hgd s x 22 45 5 40 (.agg #[.int .i64 0, .int .i64 0, .int .i64 0, .int .i64 0, .int .i64 0]) ho Tryd.underlying22 infoInfo z5 (by decide) base o l.length (infV l) hs hown g 2
    #[.int .i64 y.p, .int .i64 y.v, .int .i64 y.r, .int .i64 y.k, .int .i64 y.d, .int .i64 z.p, .int .i64 z.v, .int .i64 z.r, .int .i64 z.k, .int .i64 z.d] ty (0, 0) hx hg rfl (by simp [Value.oneCell']) (by unfold maxLen; omega) (by omega) hbase fun o' w' hG => h o' w' ⟨?_, hG.below⟩
  have := hG.own
  show w'.ownsRow base 45 5 o' (l ++ [y, z]).length (infV (l ++ [y, z]))
  rw [infV_app, List.length_append]
  exact this
set_option maxRecDepth 100000 in
set_option maxHeartbeats 4000000 in
theorem oddI_any (B p n : Nat) (l : List Inf) (v : Value) (S : Nat → Prop) (w : World) (hv : InfS w S v l) (hl : l.length ≤ 100) (hd : Die B w p n) :
    Calls Tryd.prog 21 #[.pointer (some ⟨p, 0, none⟩), v] w (OddIOut B w p n l.length) := by
  obtain ⟨va, vc, rfl⟩ := hv.form
  have HV := Lib.hid hv
  have HF := Lib.hid hv.fits
  have R0 := Lib.hid (IRow.start hd)
  clear hv hd
  rcases Nat.eq_zero_or_pos l.length with h0 | h0
  · have hm0 : l = [] := List.eq_nil_of_length_eq_zero h0
    subst hm0
    clear h0
    go_enter Tryd.func21, Tryd.ntmps21
    go_wp2_with (first
      | (go_at_call 41; refine (next_any B p n 8 _ R1.out.die (by decide) (by decide)).mono ?_; rintro e w2 ⟨z2, rfl, hz2, hd⟩; have R2 := Lib.hid (R1.out.call hd); clear hd)
      | (at_builtin; (with_reducible refine wpList_moreI rfl (.const (.slice none 0 0)) (.tmp 8) rfl w.heap.size (.slice none 0 0) [] rfl (OwnI.nil _ _) [] S va vc rfl HV.out (by simp) (Nat.le_refl _) ?_); intro o1 w1 hG; obtain ⟨oa, oc, rfl⟩ : ∃ A c, o1 = .slice A 0 c := hG.own.form; have R1 := Lib.hid (R0.out.more hG); clear hG))
    go_ret
    exact ⟨_, rfl, [⟨z2, 1, 0, 0, 0⟩], infs_lit (heap_alloc_new _ _) ⟨R2.out.size, by simp⟩ ⟨(show I64in (z2 : Int) from ⟨by omega, by omega⟩), by simp [I64in], by simp [I64in], by simp [I64in], by simp [I64in]⟩, by simp, (R2.out.below ((Below.refl _ _).alloc (Nat.le_refl _) _)).2.1⟩
  · go_enter Tryd.func21, Tryd.ntmps21
    go_upto_region 10 with (first
      | (go_at_call 41; refine (next_any B p n 7 _ R2.out.die (by decide) (by decide)).mono ?_; rintro e w3 ⟨q, rfl, hq, hd⟩; have R3 := Lib.hid (R2.out.call hd); clear hd)
      | (go_at_call 41; refine (next_any B p n l.length _ R1.out.die (by omega) (by omega)).mono ?_; rintro e w2 ⟨k, rfl, hk, hd⟩; have R2 := Lib.hid (R1.out.call hd); clear hd)
      | (at_builtin; (with_reducible refine wpList_moreI rfl (.const (.slice none 0 0)) (.tmp 8) rfl w.heap.size (.slice none 0 0) [] rfl (OwnI.nil _ _) l S va vc rfl HV.out (by simp; omega) (Nat.le_refl _) ?_); intro o1 w1 hG; obtain ⟨oa, oc, rfl⟩ : ∃ A c, o1 = .slice A l.length c := hG.own.form; have R1 : Hid (IRow B w w1 p n (.slice oa l.length oc) l) := Lib.hid (R0.out.more hG); clear hG))
    have hkl : k < l.length := by omega
    obtain ⟨g, x, rfl, hx, hgl, hgs, c0, c1, c2, c3, c4, _⟩ := (IRow.own R3.out).at hkl
    have HG : Hid (w.heap.size ≤ g ∧ g < w3.heap.size) := Lib.hid ⟨hgl, hgs⟩
    have HX := Lib.hid (HF.out x hx)
    clear c0 c1 c2 c3 c4 hgl hgs
    obtain hq0 | hq0 | hq0 | hq0 | hq0 | hq0 | hq0 : q = 0 ∨ q = 1 ∨ q = 2 ∨ q = 3 ∨ q = 4 ∨ q = 5 ∨ q = 6 := by omega
    all_goals (subst hq0; clear hq)
    · go_wp2_with (go_at_call 41; refine (next_any B p n 8 _ R3.out.die (by decide) (by decide)).mono ?_; rintro e w5 ⟨z5, rfl, hz5, hd⟩; have R5 := Lib.hid (R3.out.call hd); obtain ⟨x5, _, _, e0, e1, e2, e3, e4, ef⟩ := (IRow.own R5.out).at2 hkl; have ef5 := ef (k * 5); clear hd ef)
      go_ret
      exact odd_set (f := 0) R5.out hkl (by omega) ⟨by omega, by omega⟩ HF.out HG.out.1 (by omega) (by omega)
    · go_wp2_with (go_at_call 41; refine (next_any B p n 3 _ (R3.out.below ((Below.refl _ _).alloc (Nat.le_refl _) _)).die (by decide) (by decide)).mono ?_; rintro e w5 ⟨z5, rfl, hz5, hd⟩; have R5 := Lib.hid ((R3.out.below ((Below.refl _ _).alloc (Nat.le_refl _) _)).call hd); obtain ⟨y5, d0, d1, hy5⟩ := ints_lit #[.int .i64 0, .int .i64 255, .int .i64 256] (by intro u hu; simp at hu; rcases hu with rfl | rfl | rfl <;> exact ⟨_, rfl, by simp [I64in]⟩) (lit_kept hd (Nat.le_trans R3.out.2.2 R3.out.size)) (i := z5) (by simp; omega); obtain ⟨x5, _, _, e0, e1, e2, e3, e4, ef⟩ := (IRow.own R5.out).at2 hkl; have ef5 := ef (k * 5 + 1); have HY5 := Lib.hid hy5; clear hd ef hy5)
      go_ret
      exact odd_set R5.out hkl (by omega) HY5.out HF.out HG.out.1 (by omega) (by omega)
    · go_wp2_with (go_at_call 41; refine (next_any B p n 3 _ (R3.out.below ((Below.refl _ _).alloc (Nat.le_refl _) _)).die (by decide) (by decide)).mono ?_; rintro e w5 ⟨z5, rfl, hz5, hd⟩; have R5 := Lib.hid ((R3.out.below ((Below.refl _ _).alloc (Nat.le_refl _) _)).call hd); obtain ⟨y5, d0, d1, hy5⟩ := ints_lit #[.int .i64 (-1), .int .i64 31, .int .i64 32] (by intro u hu; simp at hu; rcases hu with rfl | rfl | rfl <;> exact ⟨_, rfl, by simp [I64in]⟩) (lit_kept hd (Nat.le_trans R3.out.2.2 R3.out.size)) (i := z5) (by simp; omega); obtain ⟨x5, _, _, e0, e1, e2, e3, e4, ef⟩ := (IRow.own R5.out).at2 hkl; have ef5 := ef (k * 5 + 2); have HY5 := Lib.hid hy5; clear hd ef hy5)
      go_ret
      exact odd_set R5.out hkl (by omega) HY5.out HF.out HG.out.1 (by omega) (by omega)
    · go_wp2_with (go_at_call 41; refine (next_any B p n 4 _ (R3.out.below ((Below.refl _ _).alloc (Nat.le_refl _) _)).die (by decide) (by decide)).mono ?_; rintro e w5 ⟨z5, rfl, hz5, hd⟩; have R5 := Lib.hid ((R3.out.below ((Below.refl _ _).alloc (Nat.le_refl _) _)).call hd); obtain ⟨y5, d0, d1, hy5⟩ := ints_lit #[.int .i64 0, .int .i64 1, .int .i64 4, .int .i64 2147483575] (by intro u hu; simp at hu; rcases hu with rfl | rfl | rfl | rfl <;> exact ⟨_, rfl, by simp [I64in]⟩) (lit_kept hd (Nat.le_trans R3.out.2.2 R3.out.size)) (i := z5) (by simp; omega); obtain ⟨x5, _, _, e0, e1, e2, e3, e4, ef⟩ := (IRow.own R5.out).at2 hkl; have ef5 := ef (k * 5 + 3); have HY5 := Lib.hid hy5; clear hd ef hy5)
      go_ret
      exact odd_set R5.out hkl (by omega) HY5.out HF.out HG.out.1 (by omega) (by omega)
    · go_wp2_with (go_at_call 41; refine (next_any B p n 3 _ (R3.out.below ((Below.refl _ _).alloc (Nat.le_refl _) _)).die (by decide) (by decide)).mono ?_; rintro e w5 ⟨z5, rfl, hz5, hd⟩; have R5 := Lib.hid ((R3.out.below ((Below.refl _ _).alloc (Nat.le_refl _) _)).call hd); obtain ⟨y5, d0, d1, hy5⟩ := ints_lit #[.int .i64 (-1), .int .i64 255, .int .i64 256] (by intro u hu; simp at hu; rcases hu with rfl | rfl | rfl <;> exact ⟨_, rfl, by simp [I64in]⟩) (lit_kept hd (Nat.le_trans R3.out.2.2 R3.out.size)) (i := z5) (by simp; omega); obtain ⟨x5, _, _, e0, e1, e2, e3, e4, ef⟩ := (IRow.own R5.out).at2 hkl; have ef5 := ef (k * 5 + 4); have HY5 := Lib.hid hy5; clear hd ef hy5)
      go_ret
      exact odd_set R5.out hkl (by omega) HY5.out HF.out HG.out.1 (by omega) (by omega)
    · obtain ⟨x5, hx5, _, e0, e1, e2, e3, e4, _⟩ := (IRow.own R3.out).at2 hkl
      have hl9 : l.length ≤ 1000000000000 := by omega
      go_wp2_with (at_builtin; (with_reducible refine wpList_info (w := w3) rfl (.tmp 92) (.tmp 97) rfl w.heap.size (.slice (some ⟨g, 0, none⟩) l.length oc) l x5 rfl R3.out.own 45 w3.heap.size rfl rfl hl9 R3.out.size ?_); intro o' w' hG; obtain ⟨ao2, co2, ho'⟩ := hG.own.form; rw [List.length_append, List.length_singleton] at ho'; subst ho'; have R7 := Lib.hid (R3.out.grewI hG); clear hG)
      go_ret
      exact odd_done R7.out (fun y hy => by
        rcases List.mem_append.1 hy with h | h
        · exact HF.out y h
        · rw [List.mem_singleton.1 h]; exact HF.out _ hx5) (by simp) (by omega)
    · go_wp2_with fail
      go_loopg [7, 5] 9 (fun q i o wr => ∃ (L : List Inf) (j : Nat), j + q = 9 ∧ i = .int .i64 j ∧ L.length ≤ l.length + 2 * j ∧ l.length ≤ L.length ∧ (∀ x ∈ L, x.fits) ∧ IRow B w wr p n o L)
      case atStart => exact ⟨l, 0, by omega, rfl, by omega, by omega, HF.out, R3.out⟩
      case round =>
        obtain ⟨LL, j, hj, rfl, hL1, hL2, hfl, hR6⟩ := hrel
        obtain ⟨ra, rc, rfl⟩ := (IRow.own hR6).form
        have R6 := Lib.hid hR6; have HFL := Lib.hid hfl
        have hkL : k < LL.length := by omega
        have HK := Lib.hid hkL
        obtain ⟨gr, xr, hra, hxr, hg1, hg2, c0, c1, c2, c3, c4, _⟩ := (IRow.own hR6).at hkL
        subst hra
        have HXM := Lib.hid hxr
        have hcell : ∀ W, Below wr.heap.size wr W → ∀ o, W.cell? ⟨gr, o, none⟩ = wr.cell? ⟨gr, o, none⟩ := fun W h o => h.cell (p := ⟨gr, o, none⟩) hg2
        have HC : Hid (∀ W, Below wr.heap.size wr W → W.cell? ⟨gr, k * 5, none⟩ = some (.int .i64 xr.p) ∧ W.cell? ⟨gr, k * 5 + 1, none⟩ = some (.int .i64 xr.v) ∧ W.cell? ⟨gr, k * 5 + 2, none⟩ = some (.int .i64 xr.r) ∧ W.cell? ⟨gr, k * 5 + 3, none⟩ = some (.int .i64 xr.k) ∧ W.cell? ⟨gr, k * 5 + 4, none⟩ = some (.int .i64 xr.d)) :=
          Lib.hid fun W h => ⟨(hcell W h _).trans c0, (hcell W h _).trans c1, (hcell W h _).trans c2, (hcell W h _).trans c3, (hcell W h _).trans c4⟩
        have hL9 : LL.length ≤ 1000000000000 := by omega
        clear hR6 hfl hxr hg1 hg2 c0 c1 c2 c3 c4 hcell
        by_cases hj9 : gk = 0
        · obtain rfl : j = 9 := by omega
          go_wp2_with fail
          go_ret
          exact odd_done R6.out HFL.out (by omega) (by omega)
        · have hj8 : (j : Int) < 9 := by omega
          go_upto_region 9 with fail
          refine wp_region_rg 10 [some 27, some 28, some 29, some 30, some 31, some 32, some 33, some 34, some 35, some 36] [[], [], [], [1, 2], [1, 2, 3], [], [], [5, 6], [5, 6, 7], [1, 2, 3, 4, 5, 6, 7, 8]]
            (fun _ _ w1 => Below wr.heap.size wr w1) (fun w1 w2 => Below w1.heap.size w1 w2)
            [fun v _ => v 0 = .slice (some ⟨gr, 0, none⟩) LL.length rc,
             fun v _ => v 1 = .slice (some ⟨gr, 0, none⟩) LL.length rc,
             fun v _ => v 2 = .int .i64 k,
             fun v _ => v 3 = .pointer (some ⟨gr, k * 5, none⟩),
             fun v _ => v 4 = .agg #[.int .i64 xr.p, .int .i64 xr.v, .int .i64 xr.r, .int .i64 xr.k, .int .i64 xr.d],
             fun v _ => v 5 = .slice (some ⟨gr, 0, none⟩) LL.length rc,
             fun v _ => v 6 = .int .i64 k,
             fun v _ => v 7 = .pointer (some ⟨gr, k * 5, none⟩),
             fun v _ => v 8 = .agg #[.int .i64 xr.p, .int .i64 xr.v, .int .i64 xr.r, .int .i64 xr.k, .int .i64 xr.d],
             fun v w1 => ∃ q, v 9 = .slice (some ⟨q, 0, none⟩) 2 2 ∧ w1.heap[q]? = some (.cells #[.int .i64 xr.p, .int .i64 xr.v, .int .i64 xr.r, .int .i64 xr.k, .int .i64 xr.d, .int .i64 xr.p, .int .i64 xr.v, .int .i64 xr.r, .int .i64 xr.k, .int .i64 xr.d] 45 (0, 0))]
            (by kernel_rfl) (by kernel_rfl) (fun _ => (Below.refl _ _).drew) ?st ?steps ?tail
          case st =>
            exact (.cons (fun _ _ _ _ _ _ h => h) (.cons (fun _ _ _ _ _ _ h => h) (.cons (fun _ _ _ _ _ _ h => h) (.cons (fun _ _ _ _ _ _ h => h) (.cons (fun _ _ _ _ _ _ h => h) (.cons (fun _ _ _ _ _ _ h => h) (.cons (fun _ _ _ _ _ _ h => h) (.cons (fun _ _ _ _ _ _ h => h) (.cons (fun _ _ _ _ _ _ h => h) (.cons (fun _ _ _ _ _ hr ⟨q, e, h⟩ => ⟨q, e, (hr.block q (Array.getElem?_eq_some_iff.1 h).1).trans h⟩) .nil))))))))))
          case steps =>
            simp only [List.take_succ_cons, List.take_zero]
            refine (.cons ?_ (.cons ?_ (.cons ?_ (.cons ?_ (.cons ?_ (.cons ?_ (.cons ?_ (.cons ?_ (.cons ?_ (.cons ?_ .nil))))))))))
            all_goals (intro L v w1 hJ hL hA hF K hK; simp only [fillRG, Act.put, Nat.zero_add, Nat.reduceAdd, List.setIfInBounds_toArray, List.set_cons_zero, List.set_cons_succ] at hK ⊢)
            · go_simp
              refine hK _ _ hJ (Below.refl _ _) ?_
              first | exact rfl | exact val_mod _
            · go_simp
              refine hK _ _ hJ (Below.refl _ _) ?_
              first | exact rfl | exact val_mod _
            · go_simp
              refine hK _ _ hJ (Below.refl _ _) ?_
              first | exact rfl | exact val_mod _
            · have e1 : v 1 = .slice (some ⟨gr, 0, none⟩) LL.length rc := hF 1 (hA 1 (by simp))
              have e2 : v 2 = .int .i64 k := hF 2 (hA 2 (by simp))
              have hki := HK.out
              simp only [e1, e2] at hK
              go_simp
              refine hK _ _ hJ (Below.refl _ _) ?_
              first | exact rfl | exact val_mod _
            · have e3 : v 3 = .pointer (some ⟨gr, k * 5, none⟩) := hF 3 (hA 3 (by simp))
              obtain ⟨c0, c1, c2, c3, c4⟩ := HC.out w1 hJ
              simp only [e3] at hK
              go_simp
              refine hK _ _ hJ (Below.refl _ _) ?_
              first | exact rfl | exact val_mod _
            · go_simp
              refine hK _ _ hJ (Below.refl _ _) ?_
              first | exact rfl | exact val_mod _
            · go_simp
              refine hK _ _ hJ (Below.refl _ _) ?_
              first | exact rfl | exact val_mod _
            · have e5 : v 5 = .slice (some ⟨gr, 0, none⟩) LL.length rc := hF 5 (hA 5 (by simp))
              have e6 : v 6 = .int .i64 k := hF 6 (hA 6 (by simp))
              have hki := HK.out
              simp only [e5, e6] at hK
              go_simp
              refine hK _ _ hJ (Below.refl _ _) ?_
              first | exact rfl | exact val_mod _
            · have e7 : v 7 = .pointer (some ⟨gr, k * 5, none⟩) := hF 7 (hA 7 (by simp))
              obtain ⟨c0, c1, c2, c3, c4⟩ := HC.out w1 hJ
              simp only [e7] at hK
              go_simp
              refine hK _ _ hJ (Below.refl _ _) ?_
              first | exact rfl | exact val_mod _
            · have e4 : v 4 = .agg #[.int .i64 xr.p, .int .i64 xr.v, .int .i64 xr.r, .int .i64 xr.k, .int .i64 xr.d] := hF 4 (hA 4 (by simp))
              have e8 : v 8 = .agg #[.int .i64 xr.p, .int .i64 xr.v, .int .i64 xr.r, .int .i64 xr.k, .int .i64 xr.d] := hF 8 (hA 8 (by simp))
              simp only [e4, e8] at hK
              go_simp
              exact hK _ _ (hJ.alloc hJ.size _) ((Below.refl _ _).alloc (Nat.le_refl _) _) ⟨_, rfl, heap_alloc_new _ _⟩
          case tail =>
            intro v w1 hJ hF
            have e0 : v 0 = .slice (some ⟨gr, 0, none⟩) LL.length rc := hF 0 (by simp)
            have e1 : v 1 = .slice (some ⟨gr, 0, none⟩) LL.length rc := hF 1 (by simp)
            have e2 : v 2 = .int .i64 k := hF 2 (by simp)
            have e3 : v 3 = .pointer (some ⟨gr, k * 5, none⟩) := hF 3 (by simp)
            have e4 : v 4 = .agg #[.int .i64 xr.p, .int .i64 xr.v, .int .i64 xr.r, .int .i64 xr.k, .int .i64 xr.d] := hF 4 (by simp)
            have e5 : v 5 = .slice (some ⟨gr, 0, none⟩) LL.length rc := hF 5 (by simp)
            have e6 : v 6 = .int .i64 k := hF 6 (by simp)
            have e7 : v 7 = .pointer (some ⟨gr, k * 5, none⟩) := hF 7 (by simp)
            have e8 : v 8 = .agg #[.int .i64 xr.p, .int .i64 xr.v, .int .i64 xr.r, .int .i64 xr.k, .int .i64 xr.d] := hF 8 (by simp)
            obtain ⟨qb, e9, hqb⟩ : ∃ q, v 9 = .slice (some ⟨q, 0, none⟩) 2 2 ∧ w1.heap[q]? = some (.cells #[.int .i64 xr.p, .int .i64 xr.v, .int .i64 xr.r, .int .i64 xr.k, .int .i64 xr.d, .int .i64 xr.p, .int .i64 xr.v, .int .i64 xr.r, .int .i64 xr.k, .int .i64 xr.d] 45 (0, 0)) := hF 9 (by simp)
            simp only [List.drop_succ_cons, List.drop_zero, fillRG, Act.put, Nat.zero_add, Nat.reduceAdd, List.setIfInBounds_toArray, List.set_cons_zero, List.set_cons_succ]
            have HJ := Lib.hid hJ
            have HQB := Lib.hid hqb
            clear hJ hF hqb
            simp only [e0, e9]
            go_wp2_with (at_builtin; (with_reducible refine wpList_info2 (w := w1) rfl (.tmp 27) (.tmp 36) rfl w.heap.size (.slice (some ⟨gr, 0, none⟩) LL.length rc) LL xr xr rfl (R6.out.below HJ.out).own 45 qb rfl HQB.out hL9 (R6.out.below HJ.out).size ?_); intro o' w' hG; obtain ⟨ao2, co2, ho'⟩ := hG.own.form; rw [List.length_append, List.length_cons, List.length_cons, List.length_nil] at ho'; subst ho'; have R7 := Lib.hid ((R6.out.below HJ.out).grewI hG); clear hG)
            go_roundg (gk - 1)
            case measure => omega
            case rel => exact ⟨LL ++ [xr, xr], j + 1, by omega, by go_num, by simp; omega, by simp; omega, by
              intro y hy
              rcases List.mem_append.1 hy with h | h
              · exact HFL.out y h
              · have : y = xr := by simpa using h
                rw [this]; exact HFL.out _ HXM.out, R7.out⟩
end Go.Proofs.YtdpiehhblflacaaDoor
/- Layer 14: SecurityinfoMade. -/
namespace Go.Proofs.YtdpiehhblflacaaDoor
open Go.RowKit Go.Deep

/-- Infos and bytes, away from the dice. -/
structure MadeW (w : World) (n : Nat) (l : List Inf) (vl : Value) (b : List UInt8) (vb : Value) (wx : World) : Prop where
  infs : InfS wx (OffD w.heap.size wx) vl l
  bytes : BsS wx (OffD w.heap.size wx) vb b
  base : BaseI w n wx
theorem MadeW.dice {w wx wy : World} {n : Nat} {l : List Inf} {vl : Value} {b : List UInt8} {vb : Value} (h : MadeW w n l vl b vb wx) (hd : DiePost (w.heap.size + 1) wx w.heap.size n wy) : MadeW w n l vl b vb wy :=
  ⟨h.infs.diceI hd, h.bytes.diceI hd, h.base.dice hd⟩
set_option maxRecDepth 100000 in
set_option maxHeartbeats 4000000 in
theorem securityinfoMade_law (v : Value) (n : Nat) (w : World) (hT : TabE w) (hv : IntsS w (· < w.heap.size) v n) : Calls Tryd.prog 4 #[v] w fun e w' => e = .returned (.bool true) ∧ Below w.heap.size w w' := by
  have HL := Lib.hid (light_any _ v n w hv)
  have HR := Lib.hid (roll_any v n w hv)
  have HT := Lib.hid hT
  obtain ⟨va, vc, rfl⟩ := hv.form
  clear hv hT
  by_cases hn : (n : Int) ≤ 400
  · have hn1 : decide ((n : Int) ≤ 400) = true := decide_eq_true hn
    rw [hn1] at HL
    clear hn hn1
    go_enter Tryd.func4, Tryd.ntmps4
    go_wp2_with (first
      | (go_at_call 20; refine (one_any _ _ n 2 _ M4.out.base.1 (by decide) (by decide)).mono ?_; rintro e w5 ⟨b5, rfl, hd⟩; have M5 := Lib.hid (M4.out.dice hd); clear hd; cases b5)
      | (go_at_call 9; refine (riencode_any l _ _ _ HI3.out).mono ?_; rintro e w4 h4; rw [HEN.out] at h4; obtain ⟨a4, c4, rfl, h4, hb⟩ := h4.got; have M4 : Hid (MadeW w n l _ bb _ w4) := ⟨HI3.out.on hb, h4.madeI B3.out.lt, B3.out.on hb⟩; clear hb h4)
      | (go_at_call 19; refine (infos_any _ _ n _ B1.out.1).mono ?_; rintro e w3 ⟨v3, rfl, l, hi, hl, hok, hd⟩; obtain ⟨bb, hen, hde, hbl⟩ := infos_returns hok; obtain ⟨a3, c3, rfl⟩ := hi.form; have HEN := Lib.hid hen; have HLL := Lib.hid hl; have HBL := Lib.hid hbl; have HI3 := Lib.hid (hi.madeI B1.out.lt); have B3 := Lib.hid (B1.out.dice hd); clear hi hl hok hd hen hde hbl)
      | (go_at_call 17; refine HL.out.mono ?_; rintro e w' ⟨rfl, hw'⟩; rw [hw']; clear hw' w')
      | (go_at_call 18; refine HR.out.mono ?_; rintro e w1 ⟨rfl, hd, hb⟩; have B1 : Hid (BaseI w n w1) := ⟨hd, hb⟩; clear hd hb))
    · skip
      go_wp2_with (go_at_call 20; refine (one_any _ _ n 2 _ M5.out.base.1 (by decide) (by decide)).mono ?_; rintro e w7 ⟨b7, rfl, hd⟩; have M7 := Lib.hid (M5.out.dice hd); clear hd; cases b7)
      · skip
        go_wp2_with (go_at_call 3; refine (exact_any _ _ _ _ _ _ (M7.out.base.tab HT.out) M7.out.infs M7.out.bytes.bsI).mono ?_; rintro e w9 ⟨rfl, hb⟩; have B9 := Lib.hid (M7.out.base.on hb); clear hb)
        go_ret
        exact ⟨rfl, B9.out.2⟩
      · skip
        go_wp2_with (first
          | (go_at_call 3; refine (exact_any _ _ _ _ _ _ (M8.out.base.tab HT.out) M8.out.infs M8.out.bytes.bsI).mono ?_; rintro e w9 ⟨rfl, hb⟩; have B9 := Lib.hid (M8.out.base.on hb); clear hb)
          | (go_at_call 22; refine (spoil_any _ _ n bb _ _ M7.out.bytes (by have := HBL.out; omega) M7.out.base.1).mono ?_; rintro e w8 ⟨v8, cc, rfl, h8, hl8, hd⟩; obtain ⟨a8, c8, rfl⟩ := h8.form2; have M8 : Hid (MadeW w n _ _ cc _ w8) := ⟨M7.out.infs.diceI hd, h8.madeI M7.out.base.lt, M7.out.base.dice hd⟩; clear hd h8 hl8))
        go_ret
        exact ⟨rfl, B9.out.2⟩
    · skip
      go_wp2_with (first
        | (go_at_call 20; refine (one_any _ _ n 2 _ M6.out.base.1 (by decide) (by decide)).mono ?_; rintro e w7 ⟨b7, rfl, hd⟩; have M7 := Lib.hid (M6.out.dice hd); clear hd; cases b7)
        | (go_at_call 21; refine (oddI_any _ _ n l _ _ _ M5.out.infs (by have := HLL.out; omega) M5.out.base.1).mono ?_; rintro e w6 ⟨v6, rfl, l6, hi, hl6, hd⟩; obtain ⟨a6, c6, rfl⟩ := hi.form; have M6 : Hid (MadeW w n l6 _ bb _ w6) := ⟨hi.madeI M5.out.base.lt, M5.out.bytes.diceI hd, M5.out.base.dice hd⟩; clear hd hi hl6))
      · skip
        go_wp2_with (go_at_call 3; refine (exact_any _ _ _ _ _ _ (M7.out.base.tab HT.out) M7.out.infs M7.out.bytes.bsI).mono ?_; rintro e w9 ⟨rfl, hb⟩; have B9 := Lib.hid (M7.out.base.on hb); clear hb)
        go_ret
        exact ⟨rfl, B9.out.2⟩
      · skip
        go_wp2_with (first
          | (go_at_call 3; refine (exact_any _ _ _ _ _ _ (M8.out.base.tab HT.out) M8.out.infs M8.out.bytes.bsI).mono ?_; rintro e w9 ⟨rfl, hb⟩; have B9 := Lib.hid (M8.out.base.on hb); clear hb)
          | (go_at_call 22; refine (spoil_any _ _ n bb _ _ M7.out.bytes (by have := HBL.out; omega) M7.out.base.1).mono ?_; rintro e w8 ⟨v8, cc, rfl, h8, hl8, hd⟩; obtain ⟨a8, c8, rfl⟩ := h8.form2; have M8 : Hid (MadeW w n _ _ cc _ w8) := ⟨M7.out.infs.diceI hd, h8.madeI M7.out.base.lt, M7.out.base.dice hd⟩; clear hd h8 hl8))
        go_ret
        exact ⟨rfl, B9.out.2⟩
  · have hn1 : decide ((n : Int) ≤ 400) = false := decide_eq_false hn
    rw [hn1] at HL
    clear hn hn1
    go_enter Tryd.func4, Tryd.ntmps4
    go_wp2_with (first
      | (go_at_call 17; refine HL.out.mono ?_; rintro e w' ⟨rfl, hw'⟩; rw [hw']; clear hw' w')
      | (go_at_call 12; refine (awakeI_any w HT.out).mono ?_; rintro e w2 ⟨rfl, h2⟩; have H2 := Lib.hid h2; clear h2))
    go_ret
    exact ⟨rfl, H2.out⟩
end Go.Proofs.YtdpiehhblflacaaDoor
