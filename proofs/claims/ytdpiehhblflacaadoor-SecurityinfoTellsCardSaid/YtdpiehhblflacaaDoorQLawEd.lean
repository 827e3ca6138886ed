/- Layer 14, plain: infos are read as they were written, and written as they were read. -/
import Derived.Test.YtdpiehhblflacaaDoorQObjR
import Derived.Test.YtdpiehhblflacaaDoorInfoP
import Derived.Test.YtdpiehhblflacaaDoorInfoR
import Derived.Test.YtdpiehhblflacaaDoorCodes
import Derived.Test.YtdpiehhblflacaaDoorStrict
import Derived.Test.YtdpiehhblflacaaDoorQLawEa
import Derived.Test.YtdpiehhblflacaaDoorQInfosM
import Derived.Test.YtdpiehhblflacaaDoorQSpoil
import Derived.Test.YtdpiehhblflacaaDoorQInfSame
namespace Go.Proofs.YtdpiehhblflacaaDoor
open Go.RowKit

theorem chk_mk {t : Int} {v : List UInt8} {k r : Ns} {d : Nat} (tv : tagV t = true) (h1 : tagC t = false → k = .nil) (h2 : tagC t = true → v = []) (hd : d ≤ 8) (hk : k.chk (d + 1) = 0) (hr : r.chk d = 0) : (Ns.cons t v k r).chk d = 0 := by
  rw [Ns.chk, if_neg (by rw [tv]; simp), if_neg ?_, if_neg (by omega), if_pos hk]
  · exact hr
  · rintro (⟨e, h⟩ | ⟨e, h⟩)
    · rw [h1 e] at h; simp [Ns.len] at h
    · rw [h2 e] at h; simp at h
theorem prim_mk {t : Int} {v : List UInt8} {r : Ns} {d : Nat} (tv : tagV t = true) (tc : tagC t = false) (hd : d ≤ 8) (hr : r.chk d = 0) : (Ns.cons t v .nil r).chk d = 0 :=
  chk_mk tv (fun _ => rfl) (fun e => by rw [tc] at e; cases e) hd rfl hr
theorem more_chk (x : Inf) : (moreN x).chk 3 = 0 := by
  have n : ∀ n r, Ns.chk r 3 = 0 → (numN n r).chk 3 = 0 := fun n r h => prim_mk rfl rfl (by omega) h
  unfold moreN
  (repeat' split)
  · exact n _ _ rfl
  · exact prim_mk rfl rfl (by omega) (n _ _ rfl)
  · rfl
theorem set_chk (l : List Inf) : (setK l).chk 2 = 0 := by
  induction l with
  | nil => rfl
  | cons x r ih => exact chk_mk rfl (fun e => by cases e) (fun _ => rfl) (by omega) (prim_mk rfl rfl (by omega) (prim_mk rfl rfl (by omega) (more_chk x))) ih
theorem top_chk (l : List Inf) : (Ns.cons 49 [] (setK l) .nil).chk 1 = 0 := chk_mk rfl (fun e => by cases e) (fun _ => rfl) (by omega) (set_chk l) rfl
theorem enc_more (x : Inf) : (moreN x).enc.length ≤ 28 := by
  have n : ∀ z r, (numN z r).enc.length ≤ 12 + r.enc.length := fun z r => by have := enc_len 2 [ofI z] .nil r; rw [show tagC 2 = false from rfl] at this; simpa [numN] using this
  unfold moreN
  (repeat' split)
  · have := n x.r .nil; simp [Ns.enc] at this ⊢; omega
  · have h := enc_len 4 (fourB x.k) .nil (numN x.d .nil)
    have h2 := n x.d .nil
    rw [show tagC 4 = false from rfl] at h
    simp [Ns.enc, fourB_len] at h h2 ⊢
    omega
  · simp [Ns.enc]
theorem enc_kids (x : Inf) : (kidsI x).enc.length ≤ 61 := by
  have h := enc_len 6 (identB x.p) .nil (numN x.v (moreN x))
  have h2 := enc_len 2 [ofI x.v] .nil (moreN x)
  have h3 := enc_more x
  rw [show tagC 6 = false from rfl] at h
  rw [show tagC 2 = false from rfl] at h2
  simp only [identB_len, List.length_cons, List.length_nil, Bool.false_eq_true, if_false] at h h2
  show (Ns.cons 6 (identB x.p) .nil (numN x.v (moreN x))).enc.length ≤ 61
  have e : numN x.v (moreN x) = .cons 2 [ofI x.v] .nil (moreN x) := rfl
  rw [e] at h ⊢
  omega
theorem enc_set (l : List Inf) : (setK l).enc.length ≤ 72 * l.length := by
  induction l with
  | nil => simp [setK, Ns.enc]
  | cons x r ih =>
    have h := enc_len 48 [] (kidsI x) (setK r)
    have h2 := enc_kids x
    rw [show tagC 48 = true from rfl] at h
    simp only [if_true] at h
    simp only [setK, List.length_cons]
    omega
/-- Valid infos are encoded. -/
theorem encI_ok {l : List Inf} (h : validP l = 0) : encI l = .ok (Ns.cons 49 [] (setK l) .nil).enc ∧ (Ns.cons 49 [] (setK l) .nil).enc.length ≤ 4096 ∧ (Ns.cons 49 [] (setK l) .nil).all ≤ 256 := by
  have h16 := valid_len h
  have h1 := enc_set l
  have h2 := enc_len 49 [] (setK l) .nil
  rw [show tagC 49 = true from rfl] at h2
  simp only [if_true, show (Ns.nil).enc.length = 0 from rfl] at h2
  have h3 := setK_all l
  have ha : (Ns.cons 49 [] (setK l) .nil).all ≤ 256 := by simp only [Ns.all]; omega
  refine ⟨?_, by omega, ha⟩
  unfold encI
  rw [if_pos h]
  unfold encP
  rw [if_neg (by rw [top_chk]; simp), if_neg (by omega), if_neg (by omega)]
theorem numV_byte {z : Int} (h0 : 0 ≤ z) (h1 : z ≤ 255) : numV [ofI z] = z := by rw [numV_one, bv_in h0 (by omega)]
theorem byte_numV {v : List UInt8} (h : v.length = 1) : [ofI (numV v)] = v ∧ 0 ≤ numV v ∧ numV v ≤ 255 := by
  match v, h with
  | [b], _ =>
    rw [numV_one]
    exact ⟨by rw [ofI_bv], bv_nn b, by have := bv_lt b; omega⟩
theorem numV_fourB {k : Int} (h0 : 0 ≤ k) (h1 : k < 4294967296) : numV (fourB k) = k := by
  simp only [numV, fourB, List.foldl_cons, List.foldl_nil, bv_ofI]
  omega
theorem fourB_numV {v : List UInt8} (h : v.length = 4) : fourB (numV v) = v := by
  match v, h with
  | [a, b, c, d], _ =>
    have ha := bv_lt a; have hb := bv_lt b; have hc := bv_lt c; have hd := bv_lt d
    have na := bv_nn a; have nb := bv_nn b; have nc := bv_nn c; have nd := bv_nn d
    have e : numV [a, b, c, d] = 16777216 * bv a + 65536 * bv b + 256 * bv c + bv d := by
      show 256 * (256 * (256 * (256 * 0 + bv a) + bv b) + bv c) + bv d = _
      omega
    unfold fourB
    rw [e]
    have q : ∀ (z : Int) (x : UInt8), z % 256 = bv x → ofI z = x := fun z x h => by rw [← ofI_bv x, ← h, ofI_mod]
    rw [q _ a (by omega), q _ b (by omega), q _ c (by omega), q _ d (by omega)]
theorem prot_ident {p : Int} (h : 2 ≤ p ∧ p ≤ 6) : protP (identB p) = p := by
  obtain rfl | rfl | rfl | rfl | rfl : p = 2 ∨ p = 3 ∨ p = 4 ∨ p = 5 ∨ p = 6 := by omega
  all_goals decide
theorem prot_inv {v : List UInt8} (h : ¬ protP v = 0) : v = identB (protP v) ∧ 2 ≤ protP v ∧ protP v ≤ 6 := by
  unfold protP at h ⊢
  (repeat' split)
  all_goals first
    | exact ⟨by assumption, by decide, by decide⟩
    | simp_all
theorem Ns.nil_of {k : Ns} (h : k.len = 0) : k = .nil := by
  cases k with
  | nil => rfl
  | cons _ _ _ _ => simp [Ns.len] at h
theorem chkB_inv {p v r k d : Int} {mb cb eb : Bool} (h : chkB p v r k d mb cb eb = 0) : (2 ≤ p ∧ p ≤ 6) ∧ (1 ≤ v ∧ v ≤ 255) ∧ (0 ≤ r ∧ r ≤ if mb = true then 31 else 0) ∧ (0 ≤ d ∧ d ≤ if cb = true then 255 else 0) ∧ ¬ (cb = true ∧ eb = false ∨ cb = false ∧ ¬ k = 0) := by
  unfold chkB at h
  obtain ⟨M, hM⟩ : ∃ M : Int, (if mb = true then 31 else 0) = M := ⟨_, rfl⟩
  obtain ⟨C, hC⟩ : ∃ C : Int, (if cb = true then 255 else 0) = C := ⟨_, rfl⟩
  rw [hM, hC] at h
  rw [hM, hC]
  by_cases h1 : 2 ≤ p ∧ p ≤ 6
  · rw [if_neg (fun e => e h1)] at h
    by_cases h2 : v < 1 ∨ 255 < v
    · rw [if_pos h2] at h; cases h
    · rw [if_neg h2] at h
      by_cases h3 : r < 0 ∨ M < r
      · rw [if_pos h3] at h; cases h
      · rw [if_neg h3] at h
        by_cases h4 : d < 0 ∨ C < d
        · rw [if_pos h4] at h; cases h
        · rw [if_neg h4] at h
          by_cases h5 : cb = true ∧ eb = false ∨ cb = false ∧ ¬ k = 0
          · rw [if_pos h5] at h; cases h
          · exact ⟨h1, by omega, by omega, by omega, h5⟩
  · rw [if_pos h1] at h; cases h
theorem chk_inv {p v r k d : Int} (h : chkI ⟨p, v, r, k, d⟩ = 0) : (2 ≤ p ∧ p ≤ 6) ∧ (1 ≤ v ∧ v ≤ 255) ∧ (0 ≤ r ∧ (p = 2 ∨ p = 3 → r ≤ 31) ∧ (¬ (p = 2 ∨ p = 3) → r = 0)) ∧ (0 ≤ d ∧ (p = 4 → d ≤ 255) ∧ (¬ p = 4 → d = 0 ∧ k = 0)) ∧ (p = 4 → 0 < k ∧ k < 2147483579) := by
  obtain ⟨h1, h2, h3, h4, h5⟩ := chkB_inv (show chkB p v r k d (decide (p = 2) || decide (p = 3)) (p == 4) (elemP k) = 0 from h)
  refine ⟨h1, h2, ⟨h3.1, fun hm => ?_, fun hm => ?_⟩, ⟨h4.1, fun hp => ?_, fun hp => ?_⟩, fun hp => ?_⟩
  · have e : (decide (p = 2) || decide (p = 3)) = true := by simpa using hm
    rw [e, if_pos rfl] at h3; exact h3.2
  · have e : (decide (p = 2) || decide (p = 3)) = false := by simpa using hm
    rw [e, if_neg (by simp)] at h3; omega
  · subst hp
    simpa using h4.2
  · have e : (p == 4) = false := by simp [hp]
    rw [e] at h4 h5
    rw [if_neg (by simp)] at h4
    exact ⟨by omega, Decidable.not_not.1 fun hk => h5 (.inr ⟨rfl, hk⟩)⟩
  · subst hp
    have hk : elemP k = true := by
      cases e : elemP k with
      | true => rfl
      | false => exact absurd (.inl ⟨rfl, e⟩) h5
    unfold elemP at hk
    simp only [Bool.and_eq_true, decide_eq_true_eq] at hk
    exact hk.1.1
theorem info_back {x : Inf} (h : chkI x = 0) : infoP 48 (kidsI x) = some x := by
  obtain ⟨p, v, r, k, d⟩ := x
  obtain ⟨hp, hv, hr, hd, hk⟩ := chk_inv h
  show infoP 48 (.cons 6 (identB p) .nil (numN v (moreN ⟨p, v, r, k, d⟩))) = some ⟨p, v, r, k, d⟩
  simp only [infoP, numN, not_true_eq_false, if_false, if_true, prot_ident hp]
  rw [fieldsP.eq_def]
  simp only []
  rw [if_neg (by omega)]
  by_cases hm : p = 2 ∨ p = 3
  · have h4 : ¬ p = 4 := by omega
    rw [if_pos hm]
    simp only [moreN, if_pos hm, numN]
    rw [if_pos ⟨trivial, rfl, trivial, rfl⟩, numV_byte (by omega) (by omega), numV_byte (by omega) (by omega), (hd.2.2 h4).1, (hd.2.2 h4).2]
  · rw [if_neg hm]
    have hr0 := hr.2.2 hm
    by_cases h4 : p = 4
    · rw [if_pos h4]
      simp only [moreN, if_neg hm, if_pos h4, numN]
      rw [if_pos ⟨trivial, rfl, trivial, rfl, trivial, rfl⟩, numV_byte (by omega) (by omega), numV_byte (by omega) (by omega), numV_fourB (by omega) (by omega), hr0]
    · rw [if_neg h4]
      simp only [moreN, if_neg hm, if_neg h4]
      rw [if_pos ⟨trivial, rfl⟩, numV_byte (by omega) (by omega), hr0, (hd.2.2 h4).1, (hd.2.2 h4).2]
theorem infos_back : ∀ (l : List Inf), (∀ x ∈ l, chkI x = 0) → infosP (setK l) = some l := by
  intro l
  induction l with
  | nil => intro _; rfl
  | cons x r ih =>
    intro h
    simp only [setK, infosP, info_back (h x (by simp)), ih fun y hy => h y (by simp [hy])]
theorem valid_all : ∀ (l : List Inf) (q : Option Inf), validF q l = 0 → ∀ x ∈ l, chkI x = 0 := by
  intro l
  induction l with
  | nil => intro _ _ x hx; simp at hx
  | cons y r ih =>
    intro q h x hx
    obtain ⟨h1, h2⟩ := validF_cons h
    rcases List.mem_cons.1 hx with rfl | hx
    · exact h1
    · exact ih _ h2 x hx
/-- INFOS ARE READ AS THEY WERE WRITTEN. -/
theorem infos_returns {l : List Inf} (h : validP l = 0) : ∃ b, encI l = .ok b ∧ decI b = .ok l ∧ b.length ≤ 4096 := by
  obtain ⟨h1, h2, h3⟩ := encI_ok h
  refine ⟨_, h1, ?_, h2⟩
  have hp := codes_parseP true _ _ (enc_codes true (Ns.cons 49 [] (setK l) .nil) (by omega)) (top_chk l) h3 h2
  have hv : validF none l = 0 := by
    have h9 := h
    unfold validP at h9
    split at h9
    · cases h9
    · exact h9
  unfold decI
  rw [hp]
  simp only [if_true, infos_back l (valid_all l none hv), if_pos h]
theorem info_inv {t : Int} {K : Ns} {x : Inf} (h : infoP t K = some x) (hk : K.prims) : t = 48 ∧ K = kidsI x := by
  unfold infoP at h
  split at h
  · cases h
  · rename_i ht
    refine ⟨by omega, ?_⟩
    split at h
    · rename_i t0 v0 k0 t1 v1 k1 r
      split at h
      · rename_i h6
        subst h6
        obtain ⟨g0, g1, gr⟩ := hk
        have e0 : k0 = .nil := Ns.nil_of (g0 (by omega))
        subst e0
        rw [fieldsP.eq_def] at h
        simp only [] at h
        split at h
        · cases h
        · rename_i hp
          obtain ⟨hv, hp2, hp6⟩ := prot_inv hp
          obtain ⟨p, hpp⟩ : ∃ p, protP v0 = p := ⟨_, rfl⟩
          rw [hpp] at h hv hp2 hp6
          subst hv
          split at h
          · rename_i hm
            split at h
            · rename_i t2 v2 k2
              split at h
              · rename_i hc
                obtain ⟨rfl, c1, rfl, c2⟩ := hc
                injection h with h
                subst h
                have e1 : k1 = .nil := Ns.nil_of (g1 (by omega))
                have e2 : k2 = .nil := Ns.nil_of (gr.1 (by omega))
                subst e1 e2
                simp only [kidsI, moreN, if_pos hm, numN, (byte_numV c1).1, (byte_numV c2).1]
              · cases h
            · cases h
          · rename_i hm
            split at h
            · rename_i h4
              split at h
              · rename_i t2 v2 k2 t3 v3 k3
                split at h
                · rename_i hc
                  obtain ⟨rfl, c1, rfl, c2, rfl, c3⟩ := hc
                  injection h with h
                  subst h
                  have e1 : k1 = .nil := Ns.nil_of (g1 (by omega))
                  have e2 : k2 = .nil := Ns.nil_of (gr.1 (by omega))
                  have e3 : k3 = .nil := Ns.nil_of (gr.2.1 (by omega))
                  subst e1 e2 e3
                  simp only [kidsI, moreN, if_neg hm, if_pos h4, numN, (byte_numV c1).1, fourB_numV c2, (byte_numV c3).1]
                · cases h
              · cases h
            · rename_i h4
              split at h
              · split at h
                · rename_i hc
                  obtain ⟨rfl, c1⟩ := hc
                  injection h with h
                  subst h
                  have e1 : k1 = .nil := Ns.nil_of (g1 (by omega))
                  subst e1
                  simp only [kidsI, moreN, if_neg hm, if_neg h4, numN, (byte_numV c1).1]
                · cases h
              · cases h
      · cases h
    · cases h
theorem set_inv : ∀ (K : Ns) (d : Nat) (l : List Inf), K.chk d = 0 → infosP K = some l → K = setK l := by
  intro K
  induction K with
  | nil =>
    intro d l _ h
    injection h with h
    subst h
    rfl
  | cons t v k r _ ih =>
    intro d l hc h
    obtain ⟨_, _, c2, _, c4, c5⟩ := chk_cons hc
    unfold infosP at h
    split at h
    · cases h
    · rename_i x hx
      split at h
      · cases h
      · rename_i m hm
        injection h with h
        subst h
        obtain ⟨rfl, rfl⟩ := info_inv hx (prims_chk k _ c4)
        have e := c2 rfl
        subst e
        rw [ih d m c5 hm]
        rfl
/-- INFOS ARE WRITTEN AS THEY WERE READ. -/
theorem infos_written {c : List UInt8} {n : List Inf} (h : decI c = .ok n) : encI n = .ok c := by
  unfold decI at h
  split at h
  · cases h
  · rename_i t v k hp
    split at h
    · rename_i ht
      subst ht
      split at h
      · cases h
      · rename_i l hl
        split at h
        · rename_i hv
          injection h with h
          subst h
          have he := (strict_parse hp).1
          have hc : (Ns.cons 49 v k .nil).chk 1 = 0 := by
            have h9 := he
            unfold encP at h9
            split at h9
            · cases h9
            · omega
          obtain ⟨_, _, c2, _, c4, _⟩ := chk_cons hc
          have e := c2 rfl
          subst e
          have ek := set_inv k _ l c4 hl
          rw [ek] at he
          unfold encI
          rw [if_pos hv]
          exact he
        · cases h
    · cases h
  · cases h
end Go.Proofs.YtdpiehhblflacaaDoor
/- Layer 14: SecurityinfoReturns: infos are read as they were written, and written as they were read. -/
namespace Go.Proofs.YtdpiehhblflacaaDoor
open Go.RowKit Go.Deep

/-- What stands beside the dice. -/
def BaseI (w : World) (n : Nat) (wx : World) : Prop := Die (w.heap.size + 1) wx w.heap.size n ∧ Below w.heap.size w wx
theorem BaseI.dice {w wx wy : World} {n : Nat} (h : BaseI w n wx) (hd : DiePost (w.heap.size + 1) wx w.heap.size n wy) : BaseI w n wy :=
  ⟨hd.1, h.2.grown hd.2 h.2.size (fun k e => by injection e with e; omega)⟩
theorem BaseI.on {w wx wy : World} {n : Nat} (h : BaseI w n wx) (hb : Below wx.heap.size wx wy) : BaseI w n wy :=
  ⟨h.1.below (hb.mono h.1.le), h.2.trans (hb.mono h.2.size)⟩
theorem BaseI.lt {w wx : World} {n : Nat} (h : BaseI w n wx) : w.heap.size < wx.heap.size := h.1.le
theorem BaseI.draw {w wx : World} {n : Nat} (h : BaseI w n wx) (k : Nat) : BaseI w n (wx.drewN k) := h.on (below_drewN (Below.refl _ _) k)
theorem BaseI.tab {w wx : World} {n : Nat} (h : BaseI w n wx) (hT : TabE w) : TabE wx := hT.below h.2 hT.lt
/-- Away from the dice. -/
abbrev OffD (p : Nat) (w : World) : Nat → Prop := fun b => b < w.heap.size ∧ b ≠ p
theorem InfS.on {w w' : World} {p : Nat} {v : Value} {l : List Inf} (h : InfS w (OffD p w) v l) (hb : Below w.heap.size w w') : InfS w' (OffD p w') v l :=
  h.keep fun b hs hl => ⟨hb.block b hl, Nat.lt_of_lt_of_le hs.1 hb.size, hs.2⟩
theorem BsS.onI {w w' : World} {p : Nat} {v : Value} {l : List UInt8} (h : BsS w (OffD p w) v l) (hb : Below w.heap.size w w') : BsS w' (OffD p w') v l :=
  h.keep fun b hs hl => ⟨hb.block b hl, Nat.lt_of_lt_of_le hs.1 hb.size, hs.2⟩
theorem InfS.diceI {B n : Nat} {w w' : World} {p : Nat} {v : Value} {l : List Inf} (h : InfS w (OffD p w) v l) (hd : DiePost B w p n w') : InfS w' (OffD p w') v l :=
  h.keep fun b hs hl => ⟨hd.2.block b hl (by intro e; injection e with e; exact hs.2 e), Nat.lt_of_lt_of_le hs.1 hd.2.size, hs.2⟩
theorem BsS.diceI {B n : Nat} {w w' : World} {p : Nat} {v : Value} {l : List UInt8} (h : BsS w (OffD p w) v l) (hd : DiePost B w p n w') : BsS w' (OffD p w') v l :=
  h.keep fun b hs hl => ⟨hd.2.block b hl (by intro e; injection e with e; exact hs.2 e), Nat.lt_of_lt_of_le hs.1 hd.2.size, hs.2⟩
theorem InfS.madeI {w w' : World} {p : Nat} {v : Value} {l : List Inf} (h : InfS w' (New w w') v l) (hp : p < w.heap.size) : InfS w' (OffD p w') v l :=
  h.keep fun b hs hl => ⟨rfl, hl, fun e => by have := hs.1; omega⟩
theorem BsS.madeI {w w' : World} {p : Nat} {v : Value} {l : List UInt8} (h : BsS w' (New w w') v l) (hp : p < w.heap.size) : BsS w' (OffD p w') v l :=
  h.keep fun b hs hl => ⟨rfl, hl, fun e => by have := hs.1; omega⟩
theorem BsS.bsI {w : World} {p : Nat} {v : Value} {l : List UInt8} (h : BsS w (OffD p w) v l) : Bs w w.heap.size v l := h.keep fun _ hs _ => ⟨rfl, hs.1⟩
theorem decI_err {b : List UInt8} {er : Int} (h : decI b = .error er) : er ≠ 0 := by
  unfold decI at h
  split at h
  · rename_i hp
    injection h with h
    subst h
    exact parseP_err0 hp
  · split at h
    · split at h
      · injection h with h; omega
      · split at h
        · cases h
        · rename_i hv
          injection h with h
          rw [← h]; exact hv
    · injection h with h; omega
  · injection h with h; omega
theorem InfsOut.err {er : Int} {w : World} {e : Ending} {w' : World} (h : InfsOut (.error er) w e w') : ∃ a c, e = .returned (.tuple #[.slice a 0 c, .int .i64 er]) ∧ Below w.heap.size w w' := by
  obtain ⟨v, h1, h2, h3⟩ := h
  obtain ⟨a, c, rfl⟩ := h2.form
  exact ⟨a, c, h1, h3⟩
set_option maxRecDepth 100000 in
set_option maxHeartbeats 4000000 in
theorem securityinfoReturns_law (v : Value) (n : Nat) (w : World) (hT : TabE w) (hv : IntsS w (· < w.heap.size) v n) : Calls Tryd.prog 5 #[v] w fun e w' => e = .returned (.bool true) ∧ Below w.heap.size w w' := by
  have HL := Lib.hid (light_any _ v n w hv)
  have HR := Lib.hid (roll_any v n w hv)
  have HT := Lib.hid hT
  obtain ⟨va, vc, rfl⟩ := hv.form
  clear hv hT
  by_cases hn : (n : Int) ≤ 400
  · have hn1 : decide ((n : Int) ≤ 400) = true := decide_eq_true hn
    rw [hn1] at HL
    clear hn hn1
    go_enter Tryd.func5, Tryd.ntmps5
    go_upto_region 10 with (first
      | (go_at_call 22; refine (spoil_any _ _ n bb _ _ HB7.out (by have := HBL.out; omega) B7.out.1).mono ?_; rintro e w8 ⟨v8, cc, rfl, h8, hl8, hd⟩; obtain ⟨a8, c8, rfl⟩ := h8.form2; have HC8 := Lib.hid (h8.madeI B7.out.lt); have B8 := Lib.hid (B7.out.dice hd); have HCL : Hid (cc.length ≤ 4097) := (by have := HBL.out; show cc.length ≤ 4097; omega); clear hd h8 hl8)
      | (go_at_call 16; refine (isame_any _ _ _ _ _ _ _ HI6.out HM6.out).mono ?_; rintro e w7 ⟨rfl, nd, hw7⟩; have hb7 : Below w6.heap.size w6 w7 := (by rw [hw7]; exact below_drewN (Below.refl _ _) nd); have B7 := Lib.hid (B6.out.on hb7); have HB7 := Lib.hid (HB6.out.onI hb7); clear hw7 hb7; rw [dec_self])
      | (go_at_call 12; refine (awakeI_any _ (B5.out.tab HT.out)).mono ?_; rintro e w6 ⟨rfl, hb⟩; have HI6 := Lib.hid (HI5.out.on hb); have HB6 := Lib.hid (HB5.out.onI hb); have HM6 := Lib.hid (HM5.out.on hb); have B6 := Lib.hid (B5.out.on hb); clear hb)
      | (go_at_call 10; refine (idecode_any bb _ _ (B4.out.tab HT.out) HB4.out.bsI).mono ?_; rintro e w5 h5; rw [HDE.out] at h5; obtain ⟨a5, c5, rfl, h5, hb⟩ := h5.got; have HI5 := Lib.hid (HI4.out.on hb); have HB5 := Lib.hid (HB4.out.onI hb); have HM5 := Lib.hid (h5.madeI B4.out.lt); have B5 := Lib.hid (B4.out.on hb); clear hb h5)
      | (go_at_call 8; refine (iencode_any l _ _ _ (B3.out.tab HT.out) HI3.out).mono ?_; rintro e w4 h4; rw [HEN.out] at h4; obtain ⟨a4, c4, rfl, h4, hb⟩ := h4.got; have HI4 := Lib.hid (HI3.out.on hb); have HB4 := Lib.hid (h4.madeI B3.out.lt); have B4 := Lib.hid (B3.out.on hb); clear hb h4)
      | (go_at_call 19; refine (infos_any _ _ n _ B1.out.1).mono ?_; rintro e w3 ⟨v3, rfl, l, hi, hl, hok, hd⟩; obtain ⟨bb, hen, hde, hbl⟩ := infos_returns hok; obtain ⟨a3, c3, rfl⟩ := hi.form; have HEN := Lib.hid hen; have HDE := Lib.hid hde; have HBL := Lib.hid hbl; have HI3 := Lib.hid (hi.madeI B1.out.lt); have B3 := Lib.hid (B1.out.dice hd); clear hi hl hok hd hen hde hbl)
      | (go_at_call 17; refine HL.out.mono ?_; rintro e w' ⟨rfl, hw'⟩; rw [hw']; clear hw' w')
      | (go_at_call 18; refine HR.out.mono ?_; rintro e w1 ⟨rfl, hd, hb⟩; have B1 : Hid (BaseI w n w1) := ⟨hd, hb⟩; clear hd hb))
    cases hrd : decI cc with
    | error er =>
      have HRD := Lib.hid hrd
      have her := decI_err hrd
      have her' : (er != 0) = true := by simp [her]
      clear hrd her
      go_wp2_with (go_at_call 10; refine (idecode_any cc _ _ (B8.out.tab HT.out) HC8.out.bsI).mono ?_; rintro e w9 h9; rw [HRD.out] at h9; obtain ⟨a9, c9, rfl, hb⟩ := h9.err; have B9 := Lib.hid (B8.out.on hb); clear hb h9)
      go_ret
      exact ⟨rfl, B9.out.2⟩
    | ok nn =>
      have HRD := Lib.hid hrd
      have HWR := Lib.hid (infos_written hrd)
      clear hrd
      go_wp2_with (first
        | (go_at_call 15; refine (same_any _ _ _ _ _ _ _ HX10.out HC10.out).mono ?_; rintro e w11 ⟨rfl, nd, hw11⟩; have B11 : Hid (BaseI w n w11) := (by rw [hw11]; exact B10.out.draw nd); clear hw11; rw [dec_self])
        | (go_at_call 8; refine (iencode_any nn _ _ _ (B9.out.tab HT.out) HN9.out).mono ?_; rintro e w10 h10; rw [HWR.out] at h10; obtain ⟨a10, c10, rfl, h10, hb⟩ := h10.got; have HX10 := Lib.hid h10; have HC10 := Lib.hid (HC9.out.onI hb); have B10 := Lib.hid (B9.out.on hb); clear hb h10)
        | (go_at_call 10; refine (idecode_any cc _ _ (B8.out.tab HT.out) HC8.out.bsI).mono ?_; rintro e w9 h9; rw [HRD.out] at h9; obtain ⟨a9, c9, rfl, h9, hb⟩ := h9.got; have HN9 := Lib.hid (h9.madeI B8.out.lt); have HC9 := Lib.hid (HC8.out.onI hb); have B9 := Lib.hid (B8.out.on hb); clear hb h9))
      go_ret
      exact ⟨rfl, B11.out.2⟩
  · have hn1 : decide ((n : Int) ≤ 400) = false := decide_eq_false hn
    rw [hn1] at HL
    clear hn hn1
    go_enter Tryd.func5, Tryd.ntmps5
    go_wp2_with (first
      | (go_at_call 17; refine HL.out.mono ?_; rintro e w' ⟨rfl, hw'⟩; rw [hw']; clear hw' w')
      | (go_at_call 12; refine (awakeI_any w HT.out).mono ?_; rintro e w2 ⟨rfl, h2⟩; have H2 := Lib.hid h2; clear h2))
    go_ret
    exact ⟨rfl, H2.out⟩
end Go.Proofs.YtdpiehhblflacaaDoor
/- Layer 14: append of all infos of a slice onto a row of the call's own. -/
namespace Go.Proofs.YtdpiehhblflacaaDoor
open Go.RowKit Go.Deep

theorem infs_cells {w : World} {b : Nat} : ∀ (m : List Inf) (off : Nat), InfsAt w m b off → ∀ j u, (infV m)[j]? = some u → w.cell? ⟨b, off + j, none⟩ = some u := by
  intro m
  induction m with
  | nil => intro off _ j u h; simp [infV] at h
  | cons x r ih =>
    intro off ⟨⟨h0, h1, h2, h3, h4⟩, _, hr⟩ j u h
    match j, h with
    | 0, h => rw [← show _ = u from Option.some.inj h]; exact h0
    | 1, h => rw [← show _ = u from Option.some.inj h]; exact h1
    | 2, h => rw [← show _ = u from Option.some.inj h]; exact h2
    | 3, h => rw [← show _ = u from Option.some.inj h]; exact h3
    | 4, h => rw [← show _ = u from Option.some.inj h]; exact h4
    | j + 5, h =>
      have := ih (off + 5) hr j u (by simpa [infV] using h)
      rwa [show off + (j + 5) = off + 5 + j by omega]
theorem infV_one (m : List Inf) : ∀ u ∈ infV m, u.oneCell' = true := by
  induction m with
  | nil => intro u h; simp [infV] at h
  | cons x r ih =>
    intro u h
    simp only [infV, List.mem_cons] at h
    rcases h with rfl | rfl | rfl | rfl | rfl | h
    all_goals first | rfl | exact ih u h
/-- What the append leaves. -/
structure MoreI (w w' : World) (base : Nat) (o o' : Value) (l : List Inf) : Prop where
  own : OwnI w' base o' l
  below : Below base w w'
  grown : w.grownBy w' o.ownBlock
  at_ : o'.ownBlock = o.ownBlock ∨ o'.ownBlock = some w.heap.size
theorem wpList_moreI {ops : Array Oper} {rest : List Oper} {op : Oper} {a : Act} {w : World} {Q : Exit → Act → World → Prop} (hgd : op.guard = none) (s x : Operand)
    (ho : op.op = .call { callee := .builtin .append, args := #[s, x], argTypes := #[22, 22] })
    (base : Nat) (o : Value) (l : List Inf) (hs : a.eval s = o) (hown : OwnI w base o l) (m : List Inf) (S : Nat → Prop) (A : Option Addr) (c : Nat) (hx : a.eval x = .slice A m.length c) (hm : InfS w S (.slice A m.length c) m)
    (hl : l.length + m.length ≤ 1000000000000) (hbase : base ≤ w.heap.size)
    (h : ∀ o' w', MoreI w w' base o o' (l ++ m) → wpList Tryd.prog ops Q rest (a.put op.dst o') w') : wpList Tryd.prog ops Q (op :: rest) a w := by
  obtain ⟨i, hinfo, hzz⟩ := Option.map_eq_some_iff.1 infoInfo
  simp only [Prod.mk.injEq] at hzz
  obtain ⟨hz, hsize, hbb⟩ := hzz
  obtain ⟨A', c', e, _, _, _, hc⟩ := hm
  injection e with e1 _ e3
  subst e1 e3
  have fin : ∀ (ad : Addr), A = some ad → (∀ j u, (infV m)[j]? = some u → w.cell? (ad.add j) = some u) → wpList Tryd.prog ops Q (op :: rest) a w := by
    intro ad hA hcell
    subst hA
    refine wpList_plain hgd fun K hK => ?_
    obtain ⟨v', w', hr, g1, g2, _, g3⟩ := run_append_own_at (P := Tryd.prog) w base 22 op.type 45 i _ 5 40 Tryd.underlying22 hinfo hz hsize hbb z5 (by omega) o l.length (infV l) hown ad m.length c (infV m) (infV_len m) hcell (infV_one m) (by unfold maxLen; omega) (by omega) hbase
    unfold Oper.wp execOp
    simp only [ho, resolve, invoke, builtin, Sem.run_bind, Sem.run_pure, Result.andThen_ok, List.map_toArray, List.map_cons, List.map_nil, hs, hx, hr]
    refine hK _ _ (h v' w' ⟨?_, ⟨g2.os, g2.tape, g2.output, g2.size, fun b hb' => g2.block b (by omega) fun e => ?_⟩, g2, g3⟩)
    · show w'.ownsRow base 45 5 v' (l ++ m).length (infV (l ++ m))
      rw [infV_app, List.length_append]
      exact g1
    · have := (hown.lt b e.symm).1
      omega
  rcases Nat.eq_zero_or_pos m.length with h0 | h0
  · have hm0 : m = [] := List.eq_nil_of_length_eq_zero h0
    subst hm0
    rcases A with _ | ad
    · refine wpList_plain hgd fun K hK => ?_
      have hrun := run_append_nil (P := Tryd.prog) w base 22 op.type 45 i 5 Tryd.underlying22 hinfo o l.length (infV l) hown c
      unfold Oper.wp execOp
      simp only [ho, resolve, invoke, builtin, Sem.run_bind, Sem.run_pure, Result.andThen_ok, List.map_toArray, List.map_cons, List.map_nil, hs, hx, List.length_nil, hrun]
      exact hK _ _ (h _ _ ⟨by rw [List.append_nil]; exact hown, Below.refl _ _, World.grownBy.refl _ _, .inl rfl⟩)
    · exact fin ad rfl (fun j u hu => by simp [infV] at hu)
  · obtain ⟨b, off, hA, _, _, hat⟩ := hc h0
    refine fin _ hA fun j u hu => ?_
    have e : (⟨b, off, none⟩ : Addr).add j = ⟨b, off + j, none⟩ := by unfold Addr.add; split <;> simp_all
    rw [e]; exact infs_cells m off hat j u hu
end Go.Proofs.YtdpiehhblflacaaDoor
/- Infos: slices.Index and slices.Contains. -/
namespace Go.Proofs.YtdpiehhblflacaaDoor
open Go.RowKit Go.Deep

set_option maxRecDepth 100000 in
set_option maxHeartbeats 2000000 in
theorem iindex_any (l : List Inf) (x : Inf) (v : Value) (S : Nat → Prop) (w : World) (hv : InfS w S v l) :
    Calls Tryd.prog 69 #[v, .agg x.cells] w fun e w' => ∃ z, e = .returned (.int .i64 z) ∧ decide (z ≥ 0) = decide (x ∈ l) ∧ Below w.heap.size w w' := by
  obtain ⟨w1, hw1⟩ : ∃ w1, w1 = w.alloc (.cells #[.int .i64 x.p, .int .i64 x.v, .int .i64 x.r, .int .i64 x.k, .int .i64 x.d] 45) := ⟨_, rfl⟩
  have hB1 : Below w.heap.size w w1 := by rw [hw1]; exact (Below.refl _ _).alloc (Nat.le_refl _) _
  have hh : w1.heap[w.heap.size]? = some (.cells #[.int .i64 x.p, .int .i64 x.v, .int .i64 x.r, .int .i64 x.k, .int .i64 x.d] 45 (0, 0)) := by rw [hw1]; exact heap_alloc_new _ _
  have hv1 : InfS w1 S v l := hv.keep fun b hs hl => ⟨hB1.block b hl, hs⟩
  obtain ⟨p, ve, rr, k, d⟩ := x
  have y0 : w1.cell? ⟨w.heap.size, 0, none⟩ = some (.int .i64 p) := by rw [cell_of_row _ _ _ _ _ _ hh]; rfl
  have y1 : w1.cell? ⟨w.heap.size, 1, none⟩ = some (.int .i64 ve) := by rw [cell_of_row _ _ _ _ _ _ hh]; rfl
  have y2 : w1.cell? ⟨w.heap.size, 2, none⟩ = some (.int .i64 rr) := by rw [cell_of_row _ _ _ _ _ _ hh]; rfl
  have y3 : w1.cell? ⟨w.heap.size, 3, none⟩ = some (.int .i64 k) := by rw [cell_of_row _ _ _ _ _ _ hh]; rfl
  have y4 : w1.cell? ⟨w.heap.size, 4, none⟩ = some (.int .i64 d) := by rw [cell_of_row _ _ _ _ _ _ hh]; rfl
  obtain ⟨a, c, rfl⟩ := hv.form
  have hla : l.length ≤ 3518437208883 := by obtain ⟨_, _, _, _, _, h, _⟩ := hv; exact h
  obtain ⟨ga, oa, hA⟩ := hv1.at
  have HA := Lib.hid hA
  have HB1 := Lib.hid hB1
  have HW1 := Lib.hid hw1
  show Calls Tryd.prog 69 #[.slice a l.length c, .agg #[.int .i64 p, .int .i64 ve, .int .i64 rr, .int .i64 k, .int .i64 d]] w _
  clear hv hv1 hA hh hB1 hw1
  go_enter Tryd.func69, Tryd.ntmps69
  go_wp2_with fail
  rw [← HW1.out]
  clear HW1
  go_loopg [8] l.length (fun m iv wr => ∃ (D R : List Inf) (nd : Nat), R.length = m ∧ iv = .int .i64 D.length ∧ D.length + R.length = l.length ∧ Hid (D ++ R = l ∧ ⟨p, ve, rr, k, d⟩ ∉ D) ∧ InfsAt w1 R ga (oa + D.length * 5) ∧ wr = w1.drewN nd)
  case atStart => exact ⟨[], l, 0, rfl, rfl, by simp, Lib.hid ⟨rfl, by simp⟩, by rw [List.length_nil, Nat.zero_mul, Nat.add_zero]; exact InfsAt.zero HA.out, rfl⟩
  case round =>
    obtain ⟨D, R, nd, rfl, rfl, hj, hab, hia, rfl⟩ := hrel
    cases R with
    | nil =>
      have E : Hid (Inf.mk p ve rr k d ∉ l) := Lib.hid (by have := hab.out; rw [List.append_nil] at this; rw [← this.1]; exact this.2)
      simp only [List.length_nil, Nat.add_zero] at hj
      clear hia hab
      go_wp2_with fail
      go_ret
      exact ⟨_, rfl, by rw [decide_eq_false E.out]; rfl, below_drewN HB1.out _⟩
    | cons x R =>
      simp only [List.length_cons] at hj
      obtain ⟨⟨x0, x1, x2, x3, x4⟩, _, hra⟩ := hia
      obtain ⟨ea, _, _⟩ := HA.out (by omega)
      subst ea
      have HRA := Lib.hid hra
      obtain ⟨o, ho⟩ : ∃ o, decide (Inf.mk p ve rr k d = x) = o := ⟨_, rfl⟩
      have hq := eql_info ⟨p, ve, rr, k, d⟩ x
      rw [ho] at hq
      obtain ⟨p', v', r', k', d'⟩ := x
      have hq' : ∀ w, (binOp .eql 45 (.agg #[.int .i64 p, .int .i64 ve, .int .i64 rr, .int .i64 k, .int .i64 d]) (.agg #[.int .i64 p', .int .i64 v', .int .i64 r', .int .i64 k', .int .i64 d'])).run Tryd.prog w = .ok (.bool o) w := hq
      have HO := Lib.hid ho
      have hlt : D.length < l.length := by omega
      clear hra ho hq
      go_upto_region 4 with fail
      go_quiet (fail)
      cases o with
      | true =>
        have E : Hid (Inf.mk p ve rr k d ∈ l) := Lib.hid (by rw [← hab.out.1, of_decide_eq_true HO.out]; simp)
        clear x0 x1 x2 x3 x4 y0 y1 y2 y3 y4 hq' HO hab
        go_wp2_with fail
        go_ret
        exact ⟨_, rfl, ⟨fun _ => E.out, fun _ => by omega⟩, below_drewN HB1.out _⟩
      | false =>
        have E : Hid (D ++ [⟨p', v', r', k', d'⟩] ++ R = l ∧ Inf.mk p ve rr k d ∉ D ++ [⟨p', v', r', k', d'⟩]) := Lib.hid ⟨by rw [List.append_assoc]; exact hab.out.1, by
          have h1 := hab.out.2
          have h2 := of_decide_eq_false HO.out
          intro h
          rcases List.mem_append.1 h with h | h
          · exact h1 h
          · exact h2 (List.mem_singleton.1 h)⟩
        clear x0 x1 x2 x3 x4 hq' HO hab
        go_wp2_with fail
        go_roundg R.length
        case measure => simp
        case rel => exact ⟨D ++ [⟨p', v', r', k', d'⟩], R, nd + nq, rfl, by rw [List.length_append, List.length_singleton]; go_num, by rw [List.length_append, List.length_singleton]; omega, E, by rw [List.length_append, List.length_singleton, show oa + (D.length + 1) * 5 = oa + D.length * 5 + 5 by omega]; exact HRA.out, rfl⟩
set_option maxRecDepth 100000 in
set_option maxHeartbeats 2000000 in
theorem icontains_any (l : List Inf) (x : Inf) (v : Value) (S : Nat → Prop) (w : World) (hv : InfS w S v l) :
    Calls Tryd.prog 44 #[v, .agg x.cells] w fun e w' => e = .returned (.bool (decide (x ∈ l))) ∧ Below w.heap.size w w' := by
  obtain ⟨w1, hw1⟩ : ∃ w1, w1 = w.alloc (.cells #[.int .i64 x.p, .int .i64 x.v, .int .i64 x.r, .int .i64 x.k, .int .i64 x.d] 45) := ⟨_, rfl⟩
  have hB1 : Below w.heap.size w w1 := by rw [hw1]; exact (Below.refl _ _).alloc (Nat.le_refl _) _
  have hh : w1.heap[w.heap.size]? = some (.cells #[.int .i64 x.p, .int .i64 x.v, .int .i64 x.r, .int .i64 x.k, .int .i64 x.d] 45 (0, 0)) := by rw [hw1]; exact heap_alloc_new _ _
  have HI := Lib.hid (iindex_any l x v S w1 (hv.keep fun b hs hl => ⟨hB1.block b hl, hs⟩))
  obtain ⟨o, ho⟩ : ∃ o, decide (x ∈ l) = o := ⟨_, rfl⟩
  rw [ho] at HI ⊢
  clear ho
  obtain ⟨p, ve, rr, k, d⟩ := x
  have y0 : w1.cell? ⟨w.heap.size, 0, none⟩ = some (.int .i64 p) := by rw [cell_of_row _ _ _ _ _ _ hh]; rfl
  have y1 : w1.cell? ⟨w.heap.size, 1, none⟩ = some (.int .i64 ve) := by rw [cell_of_row _ _ _ _ _ _ hh]; rfl
  have y2 : w1.cell? ⟨w.heap.size, 2, none⟩ = some (.int .i64 rr) := by rw [cell_of_row _ _ _ _ _ _ hh]; rfl
  have y3 : w1.cell? ⟨w.heap.size, 3, none⟩ = some (.int .i64 k) := by rw [cell_of_row _ _ _ _ _ _ hh]; rfl
  have y4 : w1.cell? ⟨w.heap.size, 4, none⟩ = some (.int .i64 d) := by rw [cell_of_row _ _ _ _ _ _ hh]; rfl
  obtain ⟨a, c, rfl⟩ := hv.form
  have HB1 := Lib.hid hB1
  have HW1 := Lib.hid hw1
  show Calls Tryd.prog 44 #[.slice a l.length c, .agg #[.int .i64 p, .int .i64 ve, .int .i64 rr, .int .i64 k, .int .i64 d]] w _
  clear hv hh hB1 hw1
  go_enter Tryd.func44, Tryd.ntmps44
  go_upto_region 1 with fail
  rw [← HW1.out]
  clear HW1
  go_wp2_with (go_at_call 69; refine HI.out.mono ?_; rintro e w2 ⟨z, rfl, hz, hb2⟩; have HZ := Lib.hid hz; have B2 := Lib.hid (HB1.out.trans (hb2.mono HB1.out.size)); clear hz hb2)
  go_ret
  exact ⟨by rw [← HZ.out]; rfl, B2.out⟩
end Go.Proofs.YtdpiehhblflacaaDoor
/- Infos: what the open list lacks (securityinfo.Missing and the reference's). -/
namespace Go.Proofs.YtdpiehhblflacaaDoor
open Go.RowKit Go.Deep

/-- append of one info, in the block that was made for it, to a row of any length. -/
theorem wpList_infoL {ops : Array Oper} {rest : List Oper} {op : Oper} {a : Act} {w : World} {Q : Exit → Act → World → Prop} (hgd : op.guard = none) (s x : Operand)
    (ho : op.op = .call { callee := .builtin .append, args := #[s, x], argTypes := #[22, 22] })
    (base : Nat) (o : Value) (l : List Inf) (y : Inf) (hs : a.eval s = o) (hown : OwnI w base o l) (ty : TypeId) (g : Nat) (hx : a.eval x = .slice (some ⟨g, 0, none⟩) 1 1) (hg : g = w.heap.size) (hl : l.length < 3518437208883) (hbase : base ≤ w.heap.size)
    (h : ∀ o' w', GrewI w w' base o o' (l ++ [y]) → wpList Tryd.prog ops Q rest (a.put op.dst o') w') : wpList Tryd.prog ops Q (op :: rest) a (w.alloc (.cells #[.int .i64 y.p, .int .i64 y.v, .int .i64 y.r, .int .i64 y.k, .int .i64 y.d] ty)) := by
  subst hg
  refine wpList_row (w := w.alloc (.cells #[.int .i64 y.p, .int .i64 y.v, .int .i64 y.r, .int .i64 y.k, .int .i64 y.d] ty)) hgd s x 22 45 5 40 (.agg #[.int .i64 0, .int .i64 0, .int .i64 0, .int .i64 0, .int .i64 0]) ho Tryd.underlying22 infoInfo z5 (by decide) base o l.length (infV l) hs (World.ownsRow.alloc hown _) w.heap.size 1
    #[.int .i64 y.p, .int .i64 y.v, .int .i64 y.r, .int .i64 y.k, .int .i64 y.d] ty (0, 0) hx (heap_alloc_new _ _) rfl (by simp [Value.oneCell']) (by unfold maxLen; omega) (by omega) (by rw [alloc_size]; omega) fun o' w' hG => h o' w' ⟨?_, ((Below.refl _ _).alloc hbase _).trans hG.below⟩
  have := hG.own
  show w'.ownsRow base 45 5 o' (l ++ [y]).length (infV (l ++ [y]))
  rw [infV_app, List.length_append]
  exact this
/-- Whether an info is of a password protocol. -/
def wordI (x : Inf) : Bool := decide (x.p = 2) || decide (x.p = 3)
/-- The infos of password protocols that are signed and not offered. -/
def missP (acc sg : List Inf) : List Inf := sg.filter fun x => wordI x && !decide (x ∈ acc)
theorem missP_len (acc sg : List Inf) : (missP acc sg).length ≤ sg.length := List.length_filter_le _ _
theorem missP_one (acc D : List Inf) (x : Inf) (o : Bool) (h : (wordI x && !decide (x ∈ acc)) = o) : missP acc (D ++ [x]) = if o = true then missP acc D ++ [x] else missP acc D := by
  unfold missP
  rw [List.filter_append, List.filter_cons, h]
  cases o <;> simp
theorem missP_no {acc D : List Inf} {x : Inf} (h : (wordI x && !decide (x ∈ acc)) = false) : missP acc (D ++ [x]) = missP acc D := by rw [missP_one _ _ _ _ h]; simp
theorem missP_yes {acc D : List Inf} {x : Inf} (h : (wordI x && !decide (x ∈ acc)) = true) : missP acc (D ++ [x]) = missP acc D ++ [x] := by rw [missP_one _ _ _ _ h]; simp
theorem infsAt_fit {w : World} {b : Nat} : ∀ (l : List Inf) (off : Nat), InfsAt w l b off → ∀ x ∈ l, x.fits := by
  intro l
  induction l with
  | nil => intro _ _ x h; simp at h
  | cons y r ih =>
    intro off ⟨_, h2, h3⟩ x h
    rcases List.mem_cons.1 h with rfl | h
    · exact h2
    · exact ih _ h3 x h
theorem missP_fits {acc sg : List Inf} (h : ∀ x ∈ sg, x.fits) : ∀ x ∈ missP acc sg, x.fits := fun x hx => h x (List.mem_filter.1 hx).1
set_option maxRecDepth 100000 in
set_option maxHeartbeats 4000000 in
theorem missing_any (acc sg : List Inf) (va vs : Value) (S S' : Nat → Prop) (w : World) (hv : InfS w S va acc) (hs : InfS w S' vs sg) :
    Calls Tryd.prog 23 #[va, vs] w fun e w' => ∃ v, e = .returned v ∧ InfS w' (New w w') v (missP acc sg) ∧ Below w.heap.size w w' := by
  have HV := Lib.hid hv
  obtain ⟨aa, ca, rfl⟩ := hv.form
  obtain ⟨a, c, rfl⟩ := hs.form
  have hls : sg.length ≤ 3518437208883 := by obtain ⟨_, _, _, _, _, h, _⟩ := hs; exact h
  obtain ⟨gb, ob, hA⟩ := hs.at
  have HA := Lib.hid hA
  have HF : Hid (∀ x ∈ sg, x.fits) := Lib.hid (infsAt_fit sg ob (InfsAt.zero hA))
  clear hv hs hA
  go_enter Tryd.func23, Tryd.ntmps23
  go_wp2_with fail
  go_loopg [5, 10] sg.length (fun m ov iv wr => ∃ (D R : List Inf) (ao : Option Addr) (co : Nat), R.length = m ∧ ov = .slice ao (missP acc D).length co ∧ iv = .int .i64 D.length ∧ D.length + R.length = sg.length ∧ Hid (D ++ R = sg) ∧ InfsAt w R gb (ob + D.length * 5) ∧ Hid (OwnI wr w.heap.size (.slice ao (missP acc D).length co) (missP acc D)) ∧ Below w.heap.size w wr)
  case atStart => exact ⟨[], sg, none, 0, rfl, rfl, rfl, by simp, Lib.hid rfl, by rw [List.length_nil, Nat.zero_mul, Nat.add_zero]; exact InfsAt.zero HA.out, Lib.hid (OwnI.nil _ _), Below.refl _ _⟩
  case round =>
    obtain ⟨D, R, ao, co, rfl, rfl, rfl, hj, hab, hia, how, hbw⟩ := hrel
    have HOW := how
    have HBW := Lib.hid hbw
    clear how
    cases R with
    | nil =>
      have E : Hid (D = sg) := Lib.hid (by have := hab.out; rwa [List.append_nil] at this)
      simp only [List.length_nil, Nat.add_zero] at hj
      clear hia hab hbw
      go_wp2_with fail
      go_ret
      have E2 := E.out
      subst E2
      refine ⟨_, rfl, (HOW.out.infs (missP_fits HF.out) (Nat.le_trans (missP_len _ _) hls)).keep fun b hb _ => ⟨rfl, hb⟩, HBW.out⟩
    | cons x R =>
      simp only [List.length_cons] at hj
      obtain ⟨⟨x0, x1, x2, x3, x4⟩, _, hra⟩ := hia
      obtain ⟨ea, ⟨_, hbl⟩, _⟩ := HA.out (by omega)
      subst ea
      have HRA := Lib.hid hra
      have hlt : (D.length : Int) < sg.length := by omega
      have hl12 : (missP acc D).length < 3518437208883 := by have := missP_len acc D; omega
      have q0 := (hbw.cell (p := ⟨gb, ob + D.length * 5, none⟩) hbl).trans x0
      have q1 := (hbw.cell (p := ⟨gb, ob + D.length * 5 + 1, none⟩) hbl).trans x1
      have q2 := (hbw.cell (p := ⟨gb, ob + D.length * 5 + 2, none⟩) hbl).trans x2
      have q3 := (hbw.cell (p := ⟨gb, ob + D.length * 5 + 3, none⟩) hbl).trans x3
      have q4 := (hbw.cell (p := ⟨gb, ob + D.length * 5 + 4, none⟩) hbl).trans x4
      have HC : Hid (∀ w1, Below w.heap.size w w1 → Calls Tryd.prog 44 #[.slice aa acc.length ca, .agg x.cells] w1 fun e w' => e = .returned (.bool (decide (x ∈ acc))) ∧ Below w1.heap.size w1 w') := Lib.hid (fun w1 h1 => icontains_any acc x _ (fun b => S b ∧ b < w.heap.size) w1 (HV.out.keep fun b hb hl => ⟨h1.block b hl, hb, hl⟩))
      have HM := Lib.hid (mapped_any x.p)
      obtain ⟨om, hom⟩ : ∃ o, (decide (x.p = 2) || decide (x.p = 3)) = o := ⟨_, rfl⟩
      obtain ⟨oc, hoc⟩ : ∃ o, decide (x ∈ acc) = o := ⟨_, rfl⟩
      rw [hom] at HM
      rw [hoc] at HC
      have HO : Hid (wordI x = om ∧ decide (x ∈ acc) = oc) := Lib.hid ⟨hom, hoc⟩
      have hsz := hbw.size
      clear hom hoc hra x0 x1 x2 x3 x4 hbw
      obtain ⟨p, ve, rr, k, d⟩ := x
      have HC' : Hid (∀ w1, Below w.heap.size w w1 → Calls Tryd.prog 44 #[.slice aa acc.length ca, .agg #[.int .i64 p, .int .i64 ve, .int .i64 rr, .int .i64 k, .int .i64 d]] w1 fun e w' => e = .returned (.bool oc) ∧ Below w1.heap.size w1 w') := HC
      have HM' : Hid (∀ w1, Calls Tryd.prog 43 #[.int .i64 p] w1 fun e w' => e = .returned (.bool om) ∧ w' = w1) := HM
      clear HC HM
      cases om with
      | false =>
        have E := Lib.hid (missP_no (acc := acc) (D := D) (x := ⟨p, ve, rr, k, d⟩) (by rw [HO.out.1]; rfl))
        clear HO HC'
        go_wp2_with (go_at_call 43; refine (HM'.out _).mono ?_; rintro e w2 ⟨rfl, hw2⟩; rw [hw2]; clear hw2 w2)
        go_roundg R.length
        case measure => simp
        case rel =>
          have E2 := E.out
          refine ⟨D ++ [⟨p, ve, rr, k, d⟩], R, ao, co, rfl, by rw [E2], by rw [List.length_append, List.length_singleton]; go_num, by rw [List.length_append, List.length_singleton]; omega, Lib.hid (by rw [List.append_assoc]; exact hab.out), by rw [List.length_append, List.length_singleton, show ob + (D.length + 1) * 5 = ob + D.length * 5 + 5 by omega]; exact HRA.out, ?_, ?_⟩
          · rw [E2]; exact Lib.hid (HOW.out.later ((Below.refl _ _).alloc (Nat.le_refl _) _))
          · exact HBW.out.alloc HBW.out.size _
      | true =>
        cases oc with
        | true =>
          have E := Lib.hid (missP_no (acc := acc) (D := D) (x := ⟨p, ve, rr, k, d⟩) (by rw [HO.out.1, HO.out.2]; rfl))
          clear HO
          go_wp2_with (first
            | (go_at_call 44; refine (HC'.out _ (HBW.out.alloc HBW.out.size _)).mono ?_; rintro e w3 ⟨rfl, hb3⟩; have B3 := Lib.hid hb3; clear hb3)
            | (go_at_call 43; refine (HM'.out _).mono ?_; rintro e w2 ⟨rfl, hw2⟩; rw [hw2]; clear hw2 w2))
          go_roundg R.length
          case measure => simp
          case rel =>
            have E2 := E.out
            have hb4 := ((Below.refl wr.heap.size wr).alloc (Nat.le_refl _) (.cells #[.int .i64 p, .int .i64 ve, .int .i64 rr, .int .i64 k, .int .i64 d] 45)).trans (B3.out.mono (by rw [alloc_size]; omega))
            refine ⟨D ++ [⟨p, ve, rr, k, d⟩], R, ao, co, rfl, by rw [E2], by rw [List.length_append, List.length_singleton]; go_num, by rw [List.length_append, List.length_singleton]; omega, Lib.hid (by rw [List.append_assoc]; exact hab.out), by rw [List.length_append, List.length_singleton, show ob + (D.length + 1) * 5 = ob + D.length * 5 + 5 by omega]; exact HRA.out, ?_, ?_⟩
            · rw [E2]; exact Lib.hid (HOW.out.later hb4)
            · exact HBW.out.trans (hb4.mono HBW.out.size)
        | false =>
          have E := Lib.hid (missP_yes (acc := acc) (D := D) (x := ⟨p, ve, rr, k, d⟩) (by rw [HO.out.1, HO.out.2]; rfl))
          clear HO
          go_wp2_with (first
            | (at_builtin; (with_reducible refine wpList_infoL (w := w3) rfl (.tmp 23) (.tmp 25) rfl w.heap.size (.slice ao (missP acc D).length co) (missP acc D) ⟨p, ve, rr, k, d⟩ rfl (HOW.out.later B4.out) 45 w3.heap.size rfl rfl hl12 (Nat.le_trans hsz B4.out.size) ?_); intro o' w' hG; obtain ⟨ao2, co2, ho'⟩ := hG.own.form; rw [List.length_append, List.length_singleton] at ho'; subst ho'; have HOE := Lib.hid hG.own; have HBE := Lib.hid ((HBW.out.trans (B4.out.mono HBW.out.size)).trans hG.below); clear hG)
            | (go_at_call 44; refine (HC'.out _ (HBW.out.alloc HBW.out.size _)).mono ?_; rintro e w3 ⟨rfl, hb3⟩; have hh3 := (hb3.block wr.heap.size (by simp)).trans (heap_alloc_new _ _); have y0 : w3.cell? ⟨wr.heap.size, 0, none⟩ = some (.int .i64 p) := (by rw [cell_of_row _ _ _ _ _ _ hh3]; rfl); have y1 : w3.cell? ⟨wr.heap.size, 1, none⟩ = some (.int .i64 ve) := (by rw [cell_of_row _ _ _ _ _ _ hh3]; rfl); have y2 : w3.cell? ⟨wr.heap.size, 2, none⟩ = some (.int .i64 rr) := (by rw [cell_of_row _ _ _ _ _ _ hh3]; rfl); have y3 : w3.cell? ⟨wr.heap.size, 3, none⟩ = some (.int .i64 k) := (by rw [cell_of_row _ _ _ _ _ _ hh3]; rfl); have y4 : w3.cell? ⟨wr.heap.size, 4, none⟩ = some (.int .i64 d) := (by rw [cell_of_row _ _ _ _ _ _ hh3]; rfl); have B4 := Lib.hid (((Below.refl wr.heap.size wr).alloc (Nat.le_refl _) (.cells #[.int .i64 p, .int .i64 ve, .int .i64 rr, .int .i64 k, .int .i64 d] 45)).trans (hb3.mono (by rw [alloc_size]; omega))); clear hb3 hh3)
            | (go_at_call 43; refine (HM'.out _).mono ?_; rintro e w2 ⟨rfl, hw2⟩; rw [hw2]; clear hw2 w2))
          go_roundg R.length
          case measure => simp
          case rel =>
            have E2 := E.out
            refine ⟨D ++ [⟨p, ve, rr, k, d⟩], R, ao2, co2, rfl, by rw [E2, List.length_append, List.length_singleton], by rw [List.length_append, List.length_singleton]; go_num, by rw [List.length_append, List.length_singleton]; omega, Lib.hid (by rw [List.append_assoc]; exact hab.out), by rw [List.length_append, List.length_singleton, show ob + (D.length + 1) * 5 = ob + D.length * 5 + 5 by omega]; exact HRA.out, ?_, HBE.out⟩
            rw [E2, List.length_append, List.length_singleton]; exact HOE
end Go.Proofs.YtdpiehhblflacaaDoor
/- Infos: a slice of a slice; append in a region that draws its order. -/
namespace Go.Proofs.YtdpiehhblflacaaDoor
open Go.RowKit Go.Deep

theorem InfsAt.drop {w : World} {b : Nat} : ∀ (l : List Inf) (off k : Nat), InfsAt w l b off → InfsAt w (l.drop k) b (off + k * 5) := by
  intro l
  induction l with
  | nil => intro off k _; rw [List.drop_nil]; trivial
  | cons x r ih =>
    intro off k h
    cases k with
    | zero => rw [Nat.zero_mul, Nat.add_zero]; exact h
    | succ k => rw [show off + (k + 1) * 5 = off + 5 + k * 5 by omega, List.drop_succ_cons]; exact ih _ k h.2.2
theorem InfsAt.take {w : World} {b : Nat} : ∀ (l : List Inf) (off k : Nat), InfsAt w l b off → InfsAt w (l.take k) b off := by
  intro l
  induction l with
  | nil => intro off k _; rw [List.take_nil]; trivial
  | cons x r ih =>
    intro off k h
    cases k with
    | zero => trivial
    | succ k => exact ⟨h.1, h.2.1, ih _ k h.2.2⟩
theorem InfS.take {w : World} {S : Nat → Prop} {a : Option Addr} {c k : Nat} {l : List Inf} (h : InfS w S (.slice a l.length c) l) (hk : k ≤ l.length) : InfS w S (.slice a (l.take k).length c) (l.take k) := by
  obtain ⟨a', c', e, h1, h2, h3, h4⟩ := h
  injection e with e1 _ e3
  subst e1 e3
  have hl : (l.take k).length = k := by rw [List.length_take]; omega
  refine ⟨a, c, rfl, by omega, h2, by omega, fun h0 => ?_⟩
  obtain ⟨b, off, ea, hb, hlt, hr⟩ := h4 (by omega)
  exact ⟨b, off, ea, hb, hlt, hr.take l off k⟩
theorem InfS.drop {w : World} {S : Nat → Prop} {b off c c2 k : Nat} {A : Option Addr} {l : List Inf} (h : InfS w S (.slice (some ⟨b, off, none⟩) l.length c) l) (hk : k ≤ l.length) (hA : k < l.length → A = some ⟨b, off + k * 5, none⟩) (hc : l.length - k ≤ c2) (hc2 : c2 ≤ c) : InfS w S (.slice A (l.drop k).length c2) (l.drop k) := by
  obtain ⟨a', c', e, h1, h2, h3, h4⟩ := h
  injection e with e1 _ e3
  subst e1 e3
  have hl : (l.drop k).length = l.length - k := List.length_drop
  refine ⟨A, c2, rfl, by omega, by omega, by omega, fun h0 => ?_⟩
  obtain ⟨b', off', ea, hb, hlt, hr⟩ := h4 (by omega)
  injection ea with ea
  injection ea with e1 e2
  subst e1 e2
  exact ⟨b, off + k * 5, hA (by omega), hb, hlt, hr.drop l off k⟩
/-- append of all infos of a slice, the operation alone. -/
theorem wp_moreI {op : Oper} {a : Act} {w : World} {K : Act → World → Prop} {Q : Exit → Act → World → Prop} (s x : Operand)
    (ho : op.op = .call { callee := .builtin .append, args := #[s, x], argTypes := #[22, 22] })
    (base : Nat) (o : Value) (l : List Inf) (hs : a.eval s = o) (hown : OwnI w base o l) (m : List Inf) (S : Nat → Prop) (A : Option Addr) (c : Nat) (hx : a.eval x = .slice A m.length c) (hm : InfS w S (.slice A m.length c) m)
    (hl : l.length + m.length ≤ 1000000000000) (hbase : base ≤ w.heap.size)
    (h : ∀ o' w', MoreI w w' base o o' (l ++ m) → K (a.put op.dst o') w') : Oper.wp Tryd.prog op a w K Q := by
  obtain ⟨i, hinfo, hzz⟩ := Option.map_eq_some_iff.1 infoInfo
  simp only [Prod.mk.injEq] at hzz
  obtain ⟨hz, hsize, hbb⟩ := hzz
  obtain ⟨A', c', e, _, _, _, hc⟩ := hm
  injection e with e1 _ e3
  subst e1 e3
  have fin : ∀ (ad : Addr), A = some ad → (∀ j u, (infV m)[j]? = some u → w.cell? (ad.add j) = some u) → Oper.wp Tryd.prog op a w K Q := by
    intro ad hA hcell
    subst hA
    obtain ⟨v', w', hr, g1, g2, _, g3⟩ := run_append_own_at (P := Tryd.prog) w base 22 op.type 45 i _ 5 40 Tryd.underlying22 hinfo hz hsize hbb z5 (by omega) o l.length (infV l) hown ad m.length c (infV m) (infV_len m) hcell (infV_one m) (by unfold maxLen; omega) (by omega) hbase
    unfold Oper.wp execOp
    simp only [ho, resolve, invoke, builtin, Sem.run_bind, Sem.run_pure, Result.andThen_ok, List.map_toArray, List.map_cons, List.map_nil, hs, hx, hr]
    refine (h v' w' ⟨?_, ⟨g2.os, g2.tape, g2.output, g2.size, fun b hb' => g2.block b (by omega) fun e => ?_⟩, g2, g3⟩)
    · show w'.ownsRow base 45 5 v' (l ++ m).length (infV (l ++ m))
      rw [infV_app, List.length_append]
      exact g1
    · have := (hown.lt b e.symm).1
      omega
  rcases Nat.eq_zero_or_pos m.length with h0 | h0
  · have hm0 : m = [] := List.eq_nil_of_length_eq_zero h0
    subst hm0
    rcases A with _ | ad
    · have hrun := run_append_nil (P := Tryd.prog) w base 22 op.type 45 i 5 Tryd.underlying22 hinfo o l.length (infV l) hown c
      unfold Oper.wp execOp
      simp only [ho, resolve, invoke, builtin, Sem.run_bind, Sem.run_pure, Result.andThen_ok, List.map_toArray, List.map_cons, List.map_nil, hs, hx, List.length_nil, hrun]
      exact (h _ _ ⟨by rw [List.append_nil]; exact hown, Below.refl _ _, World.grownBy.refl _ _, .inl rfl⟩)
    · exact fin ad rfl (fun j u hu => by simp [infV] at hu)
  · obtain ⟨b, off, hA, _, _, hat⟩ := hc h0
    refine fin _ hA fun j u hu => ?_
    have e : (⟨b, off, none⟩ : Addr).add j = ⟨b, off + j, none⟩ := by unfold Addr.add; split <;> simp_all
    rw [e]; exact infs_cells m off hat j u hu
end Go.Proofs.YtdpiehhblflacaaDoor
/- Layer 14: SecurityinfoTells. -/
namespace Go.Proofs.YtdpiehhblflacaaDoor
open Go.RowKit Go.Deep

/-- The order of infos: by protocols, then by the numbers of keys. -/
def ltI (x y : Inf) : Prop := x.p < y.p ∨ x.p = y.p ∧ x.d < y.d
theorem ltI_of_ord {x y : Inf} (h : ordB (some x) y = false) : ltI x y := by
  simp only [ordB, Bool.or_eq_false_iff, decide_eq_false_iff_not, Bool.and_eq_false_iff] at h
  unfold ltI
  omega
theorem validF_sorted : ∀ (l : List Inf) (q : Inf), validF (some q) l = 0 → (∀ x ∈ l, ltI q x) ∧ l.Nodup := by
  intro l
  induction l with
  | nil => intro q _; exact ⟨fun _ h => by simp at h, .nil⟩
  | cons x r ih =>
    intro q h
    rw [validF] at h
    split at h
    · rename_i h1; exact absurd h h1
    · split at h
      · cases h
      · rename_i ho
        have hx := ltI_of_ord (by simpa using ho)
        obtain ⟨h1, h2⟩ := ih x h
        refine ⟨fun y hy => ?_, List.nodup_cons.2 ⟨fun hm => ?_, h2⟩⟩
        · rcases List.mem_cons.1 hy with rfl | hy
          · exact hx
          · have := h1 y hy
            unfold ltI at hx this ⊢
            omega
        · have := h1 x hm
          unfold ltI at this
          omega
theorem validP_nodup {l : List Inf} (h : validP l = 0) : l.Nodup := by
  unfold validP at h
  split at h
  · cases h
  · cases l with
    | nil => exact .nil
    | cons x r =>
      rw [validF] at h
      split at h
      · rename_i h1; exact absurd h h1
      · rw [if_neg (by simp [ordB])] at h
        obtain ⟨h1, h2⟩ := validF_sorted r x h
        exact List.nodup_cons.2 ⟨fun hm => by have := h1 x hm; unfold ltI at this; omega, h2⟩
theorem missP_self (l : List Inf) : missP l l = [] := by
  unfold missP
  rw [List.filter_eq_nil_iff]
  intro x hx
  simp [hx]
theorem missP_without {D R : List Inf} {x : Inf} (h : (D ++ x :: R).Nodup) : missP (D ++ R) (D ++ x :: R) = if wordI x = true then [x] else [] := by
  have hx : x ∉ D ++ R := by
    rw [List.nodup_append] at h
    obtain ⟨_, h2, h3⟩ := h
    rw [List.nodup_cons] at h2
    intro hm
    rcases List.mem_append.1 hm with hm | hm
    · exact h3 x hm x (by simp) rfl
    · exact h2.1 hm
  unfold missP
  rw [List.filter_append, List.filter_cons, List.filter_eq_nil_iff.2 (fun y hy => by simp [hy]), List.filter_eq_nil_iff.2 (fun y hy => by simp [hy])]
  cases hw : wordI x <;> simp <;> simpa using hx
set_option maxRecDepth 100000 in
set_option maxHeartbeats 4000000 in
theorem securityinfoTells_law (v : Value) (n : Nat) (t : Int) (wf : (Lit.int .i64 t).wf = true) (w : World) (hT : TabE w) (hv : IntsS w (· < w.heap.size) v n) : Calls Tryd.prog 6 #[v, .int .i64 t] w fun e w' => e = .returned (.bool true) ∧ Below w.heap.size w w' := by
  have ht : I64in t := by simp [Lit.wf, IntKind.min, IntKind.max, IntKind.signed, IntKind.bits] at wf; exact ⟨by omega, by omega⟩
  have HL := Lib.hid (light_any _ v n w hv)
  have HR := Lib.hid (roll_any v n w hv)
  have HT := Lib.hid hT
  obtain ⟨va, vc, rfl⟩ := hv.form
  clear hv hT wf
  by_cases hn : (n : Int) ≤ 400
  · have hn1 : decide ((n : Int) ≤ 400) = true := decide_eq_true hn
    rw [hn1] at HL
    clear hn hn1
    have HMS : Hid (∀ (l : List Inf) (va vb : Value) (S S' : Nat → Prop) (w : World), InfS w S va l → InfS w S' vb l → Calls Tryd.prog 23 #[va, vb] w fun e w' => ∃ a c, e = .returned (.slice a 0 c) ∧ Below w.heap.size w w') := Lib.hid (fun l va vb S S' w h1 h2 => (missing_any l l va vb S S' w h1 h2).mono fun e w' ⟨v, he, hm, hb⟩ => by
      rw [missP_self] at hm
      obtain ⟨a, c, rfl⟩ := hm.form
      exact ⟨a, c, he, hb⟩)
    go_enter Tryd.func6, Tryd.ntmps6
    go_upto_region 7 with (first
      | (go_at_call 23; refine (HMS.out _ _ _ _ _ _ HI5.out HI5.out).mono ?_; rintro e w6 ⟨a6, c6, rfl, hb⟩; have HI6 := Lib.hid (HI5.out.on hb); have B6 := Lib.hid (B5.out.on hb); clear hb)
      | (go_at_call 12; refine (awakeI_any _ (B3.out.tab HT.out)).mono ?_; rintro e w5 ⟨rfl, hb⟩; have HI5 := Lib.hid (HI3.out.on hb); have B5 := Lib.hid (B3.out.on hb); clear hb)
      | (go_at_call 19; refine (infos_any _ _ n _ B1.out.1).mono ?_; rintro e w3 ⟨v3, rfl, l, hi, hl, hok, hd⟩; obtain ⟨a3, c3, rfl⟩ := hi.form; have HLL := Lib.hid hl; have HOK := Lib.hid (validP_nodup hok); have HI3 := Lib.hid (hi.madeI B1.out.lt); have B3 := Lib.hid (B1.out.dice hd); clear hi hl hok hd)
      | (go_at_call 17; refine HL.out.mono ?_; rintro e w' ⟨rfl, hw'⟩; rw [hw']; clear hw' w')
      | (go_at_call 18; refine HR.out.mono ?_; rintro e w1 ⟨rfl, hd, hb⟩; have B1 : Hid (BaseI w n w1) := ⟨hd, hb⟩; clear hd hb))
    clear HI5 HI3 B5 B3 B1 HMS
    by_cases h0 : l.length = 0
    · go_wp2_with fail
      go_ret
      exact ⟨rfl, B6.out.2⟩
    · have hl16 : l.length ≤ 100 := by have := HLL.out; omega
      obtain ⟨k, hkt, hkl⟩ : ∃ k : Nat, t % (l.length : Int) = k ∧ k < l.length := by
        have h1 := Int.emod_nonneg t (b := (l.length : Int)) (by omega)
        have h2 := Int.emod_lt_of_pos t (b := (l.length : Int)) (by omega)
        exact ⟨(t % (l.length : Int)).toNat, by omega, by omega⟩
      have hc3 : l.length ≤ c3 ∧ c3 ≤ 9223372036854775807 := by
        obtain ⟨_, _, e, h1, h2, _⟩ := HI6.out
        injection e with _ _ e3
        subst e3
        exact ⟨h1, h2⟩
      have HMod := Lib.hid (mod_any t l.length ht (by omega) (by omega))
      rw [hkt] at HMod
      obtain ⟨b, off, hat⟩ := HI6.out.at
      obtain ⟨rfl, ⟨_, hbl⟩, hat⟩ := hat (by omega)
      have HAT := Lib.hid hat
      have HBL := Lib.hid hbl
      have HK : Hid (k < l.length ∧ l.length ≤ 100 ∧ l.length ≤ c3 ∧ c3 ≤ 9223372036854775807) := ⟨hkl, hl16, hc3.1, hc3.2⟩
      have HKL : Hid (k ≤ l.length) := Lib.hid (Nat.le_of_lt hkl)
      have HLT : Hid ((l.take k).length = k) := Lib.hid (by rw [List.length_take]; omega)
      have HLD : Hid ((l.drop (k + 1)).length = l.length - (k + 1)) := Lib.hid (by rw [List.length_drop])
      have HL2 : Hid ((l.take k ++ l.drop (k + 1)).length ≤ 3518437208883) := Lib.hid (by rw [List.length_append, List.length_take, List.length_drop]; omega)
      have HF2 : Hid (∀ x ∈ l.take k ++ l.drop (k + 1), x.fits) := Lib.hid (fun x hx => infsAt_fit l off hat x (by
        rcases List.mem_append.1 hx with h | h
        · exact List.mem_of_mem_take h
        · exact List.mem_of_mem_drop h))
      obtain ⟨x, hx⟩ : ∃ x, l = l.take k ++ x :: l.drop (k + 1) := ⟨l[k], by rw [List.getElem_cons_drop, List.take_append_drop]⟩
      have hxd : l.drop k = x :: l.drop (k + 1) := by
        have h : l.drop k = (l.take k ++ x :: l.drop (k + 1)).drop k := congrArg (fun y => y.drop k) hx
        rw [h, List.drop_append_of_le_length (by rw [List.length_take]; omega), List.drop_eq_nil_of_le (by rw [List.length_take]; omega), List.nil_append]
      have HXA : Hid (InfAt w6 x b (off + k * 5)) := Lib.hid (by
        have h := hat.drop l off k
        rw [hxd] at h
        exact h.1)
      obtain ⟨L2, hL2⟩ : ∃ L2, L2 = l.take k ++ l.drop (k + 1) := ⟨_, rfl⟩
      have HMS2 : Hid (∀ (va vb : Value) (S : Nat → Prop) (w : World), InfS w S va L2 → InfS w S vb l → Calls Tryd.prog 23 #[va, vb] w fun e w' => ∃ v, e = .returned v ∧ InfS w' (New w w') v (if wordI x = true then [x] else []) ∧ Below w.heap.size w w') := Lib.hid (fun va vb S w h1 h2 => by
        have h := missing_any L2 l va vb S S w h1 h2
        rwa [show missP L2 l = if wordI x = true then [x] else [] by
          have e := missP_without (D := l.take k) (R := l.drop (k + 1)) (x := x) (by rw [← hx]; exact HOK.out)
          rwa [← hx, ← hL2] at e] at h)
      have HE2 := Lib.hid hL2
      rw [← hL2] at HL2 HF2
      clear hat hbl hkt h0 hc3 ht hx hxd hL2
      go_upto_region 10 with (go_at_call 24; refine (HMod.out _).mono ?_; rintro e w7 ⟨rfl, hw7⟩; rw [hw7]; clear hw7 w7)
      refine wp_region_rg 8 [some 35, some 36, some 37, some 38, some 39, some 40, some 41, some 42] [[], [], [0, 1], [0, 1, 2], [], [], [5], [4, 5, 6]]
        (fun _ _ w1 => Below w6.heap.size w6 w1) (fun w1 w2 => Below w1.heap.size w1 w2)
        [fun v _ => v 0 = .slice (some ⟨b, off, none⟩) l.length c3,
         fun v _ => v 1 = .int .i64 (k : Int),
         fun v _ => v 2 = .slice (some ⟨b, off, none⟩) k c3,
         fun v w1 => ∃ A c2, v 3 = .slice A k c2 ∧ OwnI w1 w6.heap.size (.slice A k c2) (l.take k),
         fun v _ => v 4 = .slice (some ⟨b, off, none⟩) l.length c3,
         fun v _ => v 5 = .int .i64 (k : Int),
         fun v _ => v 6 = .int .i64 ((k : Int) + 1),
         fun v w1 => ∃ A c2, v 7 = .slice A (l.drop (k + 1)).length c2 ∧ InfS w1 (OffD w.heap.size w6) (.slice A (l.drop (k + 1)).length c2) (l.drop (k + 1))]
        (by kernel_rfl) (by kernel_rfl) (fun _ => (Below.refl _ _).drew) ?st ?steps ?tail
      case st =>
        exact (.cons (fun _ _ _ _ _ _ h => h) (.cons (fun _ _ _ _ _ _ h => h) (.cons (fun _ _ _ _ _ _ h => h) (.cons (fun _ _ _ _ _ hr ⟨A, c2, e, h⟩ => ⟨A, c2, e, h.later hr⟩) (.cons (fun _ _ _ _ _ _ h => h) (.cons (fun _ _ _ _ _ _ h => h) (.cons (fun _ _ _ _ _ _ h => h) (.cons (fun _ _ _ _ _ hr ⟨A, c2, e, h⟩ => ⟨A, c2, e, h.below hr⟩) .nil))))))))
      case steps =>
        simp only [List.take_succ_cons, List.take_zero]
        refine (.cons ?_ (.cons ?_ (.cons ?_ (.cons ?_ (.cons ?_ (.cons ?_ (.cons ?_ (.cons ?_ .nil))))))))
        all_goals (intro L v w1 hJ hL hA hF K hK; simp only [fillRG, Act.put, Nat.zero_add, Nat.reduceAdd, List.setIfInBounds_toArray, List.set_cons_zero, List.set_cons_succ] at hK ⊢)
        · go_simp
          refine hK _ _ hJ (Below.refl _ _) ?_
          first | exact rfl | exact val_mod _
        · go_simp
          refine hK _ _ hJ (Below.refl _ _) ?_
          first | exact rfl | exact val_mod _
        · have e0 : v 0 = .slice (some ⟨b, off, none⟩) l.length c3 := hF 0 (hA 0 (by simp))
          have e1 : v 1 = .int .i64 (k : Int) := hF 1 (hA 1 (by simp))
          have hkc : k ≤ c3 := (by have := HK.out; omega)
          simp only [e0, e1] at hK
          go_simp
          refine hK _ _ hJ (Below.refl _ _) ?_
          first | exact rfl | exact val_mod _
        · have e2 : v 2 = .slice (some ⟨b, off, none⟩) k c3 := hF 2 (hA 2 (by simp))
          simp only [e2] at hK
          simp only [e2]
          rw [if_pos (show Region.wanted _ _ = true from rfl)]
          refine wp_moreI (.const (.slice none 0 0)) (.tmp 37) rfl w6.heap.size (.slice none 0 0) [] rfl (OwnI.nil _ _) (l.take k) (OffD w.heap.size w6) (some ⟨b, off, none⟩) c3 (by rw [HLT.out]; simp [Act.eval]) ((HI6.out.take HKL.out).keep fun g hs hl => ⟨hJ.block g hl, hs⟩) (by rw [HLT.out]; have := HLL.out; have := HK.out.1; simp; omega) hJ.size fun o2 w2 hG => ?_
          obtain ⟨A2, c2, e2⟩ := hG.own.form
          rw [List.nil_append, HLT.out] at e2
          exact hK _ _ (hJ.trans hG.below) ⟨hG.grown.os, hG.grown.tape, hG.grown.output, hG.grown.size, fun g hg => hG.grown.block g hg (fun e => by cases e)⟩ ⟨A2, c2, e2, by rw [← e2]; exact hG.own⟩
        · go_simp
          refine hK _ _ hJ (Below.refl _ _) ?_
          first | exact rfl | exact val_mod _
        · go_simp
          refine hK _ _ hJ (Below.refl _ _) ?_
          first | exact rfl | exact val_mod _
        · have e5 : v 5 = .int .i64 (k : Int) := hF 5 (hA 5 (by simp))
          have W : Value.int .i64 (IntKind.i64.wrap ((k : Int) + 1)) = .int .i64 ((k : Int) + 1) := (by rw [IntWalk.i64_in _ (by have := HK.out; omega)])
          simp only [e5] at hK
          go_simp
          refine hK _ _ hJ (Below.refl _ _) ?_
          first | exact rfl | exact val_mod _
        · have e4 : v 4 = .slice (some ⟨b, off, none⟩) l.length c3 := hF 4 (hA 4 (by simp))
          have e6 : v 6 = .int .i64 ((k : Int) + 1) := hF 6 (hA 6 (by simp))
          simp only [e4, e6] at hK
          have hks : (0 : Int) ≤ (k : Int) + 1 ∧ (k : Int) + 1 ≤ (l.length : Int) := (by have := HK.out; omega)
          go_simp
          exact hK _ _ hJ (Below.refl _ _) ⟨if c3 = k + 1 then some ⟨b, off, none⟩ else some ⟨b, off + (k + 1) * 5, none⟩, c3 - (k + 1), (by show Value.slice _ _ _ = _; rw [HLD.out]), (HI6.out.drop (k := k + 1) (by have := HK.out; omega) (fun h => if_neg (by have := HK.out; omega)) (by have := HK.out; omega) (Nat.sub_le _ _)).keep fun g hs hl => ⟨hJ.block g hl, hs⟩⟩
      case tail =>
        intro v w1 hJ hF
        have e0 : v 0 = .slice (some ⟨b, off, none⟩) l.length c3 := hF 0 (by simp)
        have e1 : v 1 = .int .i64 (k : Int) := hF 1 (by simp)
        have e2 : v 2 = .slice (some ⟨b, off, none⟩) k c3 := hF 2 (by simp)
        have e4 : v 4 = .slice (some ⟨b, off, none⟩) l.length c3 := hF 4 (by simp)
        have e5 : v 5 = .int .i64 (k : Int) := hF 5 (by simp)
        have e6 : v 6 = .int .i64 ((k : Int) + 1) := hF 6 (by simp)
        obtain ⟨A3, cc3, e3, h3⟩ : ∃ A c2, v 3 = .slice A k c2 ∧ OwnI w1 w6.heap.size (.slice A k c2) (l.take k) := hF 3 (by simp)
        obtain ⟨A7, cc7, e7, h7⟩ : ∃ A c2, v 7 = .slice A (l.drop (k + 1)).length c2 ∧ InfS w1 (OffD w.heap.size w6) (.slice A (l.drop (k + 1)).length c2) (l.drop (k + 1)) := hF 7 (by simp)
        simp only [List.drop_succ_cons, List.drop_zero, fillRG, Act.put, Nat.zero_add, Nat.reduceAdd, List.setIfInBounds_toArray, List.set_cons_zero, List.set_cons_succ]
        have HJ := Lib.hid hJ; have H3 := Lib.hid h3; have H7 := Lib.hid h7
        clear hJ hF h3 h7
        go_upto_region 11 with (at_builtin; (with_reducible refine wpList_moreI rfl (.tmp 38) (.tmp 42) rfl w6.heap.size (.slice A3 k cc3) (l.take k) (by simp [Act.eval, e3]) H3.out (l.drop (k + 1)) (OffD w.heap.size w6) A7 cc7 (by simp [Act.eval, e7]) H7.out (by have := HLL.out; have := HLT.out; have := HLD.out; have := HK.out.2; omega) HJ.out.size ?_); intro o' w8 hG; rw [← HE2.out] at hG; obtain ⟨a8, c8, ho'⟩ := hG.own.form; subst ho'; have hb8 : Below w6.heap.size w6 w8 := HJ.out.trans hG.below; have HO8 : Hid (InfS w8 (OffD w.heap.size w8) (.slice a8 L2.length c8) L2) := Lib.hid ((hG.own.infs HF2.out HL2.out).keep fun g hs _ => ⟨rfl, hs.2, fun e => by have := hs.1; have := B6.out.lt; omega⟩); have HI8 := Lib.hid (HI6.out.on hb8); have B8 := Lib.hid (B6.out.on hb8); have BW8 := Lib.hid hb8; clear hG hb8)
        clear H3 H7 e3 e7 e0 e1 e2 e4 e5 e6 HJ
        obtain ⟨p, ve, rr, kk, d⟩ := x
        by_cases hp2 : p = 2
        · subst hp2
          rw [show wordI ⟨2, ve, rr, kk, d⟩ = true from rfl, if_pos rfl] at HMS2
          go_upto_region 13 with (go_at_call 23; refine (HMS2.out _ _ _ _ HO8.out HI8.out).mono ?_; rintro e w9 ⟨v9, rfl, hm, hb⟩; obtain ⟨a9, c9, rfl⟩ := hm.form; obtain ⟨b9, o9, hc9⟩ := hm.at; obtain ⟨rfl, _, ⟨z0, z1, z2, z3, z4⟩, _⟩ := hc9 (by simp); clear hc9; have hb9 : Below w6.heap.size w6 w9 := BW8.out.trans (hb.mono BW8.out.size); obtain ⟨y0, y1, y2, y3, y4⟩ := HXA.out.same (hb9.block b HBL.out); have B9 := Lib.hid (B8.out.on hb); clear hb hb9 hm)
          have hq : ∀ w, (binOp .eql 45 (.agg #[.int .i64 2, .int .i64 ve, .int .i64 rr, .int .i64 kk, .int .i64 d]) (.agg #[.int .i64 2, .int .i64 ve, .int .i64 rr, .int .i64 kk, .int .i64 d])).run Tryd.prog w = .ok (.bool true) w := fun w => (eql_info ⟨2, ve, rr, kk, d⟩ ⟨2, ve, rr, kk, d⟩ w).trans (by rw [dec_self])
          go_quiet (fail)
          go_wp2_with fail
          go_ret
          exact ⟨rfl, (B9.out.on (below_drewN (Below.refl _ _) _)).2⟩
        · by_cases hp3 : p = 3
          · subst hp3
            rw [show wordI ⟨3, ve, rr, kk, d⟩ = true from rfl, if_pos rfl] at HMS2
            go_upto_region 13 with (go_at_call 23; refine (HMS2.out _ _ _ _ HO8.out HI8.out).mono ?_; rintro e w9 ⟨v9, rfl, hm, hb⟩; obtain ⟨a9, c9, rfl⟩ := hm.form; obtain ⟨b9, o9, hc9⟩ := hm.at; obtain ⟨rfl, _, ⟨z0, z1, z2, z3, z4⟩, _⟩ := hc9 (by simp); clear hc9; have hb9 : Below w6.heap.size w6 w9 := BW8.out.trans (hb.mono BW8.out.size); obtain ⟨y0, y1, y2, y3, y4⟩ := HXA.out.same (hb9.block b HBL.out); have B9 := Lib.hid (B8.out.on hb); clear hb hb9 hm)
            have hq : ∀ w, (binOp .eql 45 (.agg #[.int .i64 3, .int .i64 ve, .int .i64 rr, .int .i64 kk, .int .i64 d]) (.agg #[.int .i64 3, .int .i64 ve, .int .i64 rr, .int .i64 kk, .int .i64 d])).run Tryd.prog w = .ok (.bool true) w := fun w => (eql_info ⟨3, ve, rr, kk, d⟩ ⟨3, ve, rr, kk, d⟩ w).trans (by rw [dec_self])
            go_quiet (fail)
            go_wp2_with fail
            go_ret
            exact ⟨rfl, (B9.out.on (below_drewN (Below.refl _ _) _)).2⟩
          · rw [show wordI ⟨p, ve, rr, kk, d⟩ = false by simp [wordI, hp2, hp3], if_neg (by simp)] at HMS2
            have q2 : (p == 2) = false := by simp [hp2]
            have q3 : (p == 3) = false := by simp [hp3]
            go_upto_region 13 with (go_at_call 23; refine (HMS2.out _ _ _ _ HO8.out HI8.out).mono ?_; rintro e w9 ⟨v9, rfl, hm, hb⟩; obtain ⟨a9, c9, rfl⟩ := hm.form; have hb9 : Below w6.heap.size w6 w9 := BW8.out.trans (hb.mono BW8.out.size); obtain ⟨y0, y1, y2, y3, y4⟩ := HXA.out.same (hb9.block b HBL.out); have B9 := Lib.hid (B8.out.on hb); clear hb hb9 hm)
            go_quiet (fail)
            go_wp2_with fail
            go_ret
            exact ⟨rfl, (B9.out.on (below_drewN (Below.refl _ _) _)).2⟩
  · have hn1 : decide ((n : Int) ≤ 400) = false := decide_eq_false hn
    rw [hn1] at HL
    clear hn hn1
    go_enter Tryd.func6, Tryd.ntmps6
    go_wp2_with (first
      | (go_at_call 17; refine HL.out.mono ?_; rintro e w' ⟨rfl, hw'⟩; rw [hw']; clear hw' w')
      | (go_at_call 12; refine (awakeI_any w HT.out).mono ?_; rintro e w2 ⟨rfl, h2⟩; have H2 := Lib.hid h2; clear h2))
    go_ret
    exact ⟨rfl, H2.out⟩
end Go.Proofs.YtdpiehhblflacaaDoor
