/- Layer 14, plain: infos are read as they were written, and written as they were read. -/
import Derived.Test.YtdpiehhblflacaaDoorQObjR
import Derived.Test.YtdpiehhblflacaaDoorInfoP
import Derived.Test.YtdpiehhblflacaaDoorInfoR
import Derived.Test.YtdpiehhblflacaaDoorCodes
import Derived.Test.YtdpiehhblflacaaDoorStrict
import Derived.Test.YtdpiehhblflacaaDoorQLawEa
import Derived.Test.YtdpiehhblflacaaDoorQInfosM
import Derived.Test.YtdpiehhblflacaaDoorQSpoil
namespace Go.Proofs.YtdpiehhblflacaaDoor
open Go.RowKit

theorem chk_mk {t : Int} {v : List UInt8} {k r : Ns} {d : Nat} (tv : tagV t = true) (h1 : tagC t = false → k = .nil) (h2 : tagC t = true → v = []) (hd : d ≤ 8) (hk : k.chk (d + 1) = 0) (hr : r.chk d = 0) : (Ns.cons t v k r).chk d = 0 := by
  rw [Ns.chk, if_neg (by rw [tv]; simp), if_neg ?_, if_neg (by omega), if_pos hk]
  · exact hr
  · rintro (⟨e, h⟩ | ⟨e, h⟩)
    · rw [h1 e] at h; simp [Ns.len] at h
    · rw [h2 e] at h; simp at h
theorem prim_mk {t : Int} {v : List UInt8} {r : Ns} {d : Nat} (tv : tagV t = true) (tc : tagC t = false) (hd : d ≤ 8) (hr : r.chk d = 0) : (Ns.cons t v .nil r).chk d = 0 :=
  chk_mk tv (fun _ => rfl) (fun e => by rw [tc] at e; cases e) hd rfl hr
theorem more_chk (x : Inf) : (moreN x).chk 3 = 0 := by
  have n : ∀ n r, Ns.chk r 3 = 0 → (numN n r).chk 3 = 0 := fun n r h => prim_mk rfl rfl (by omega) h
  unfold moreN
  (repeat' split)
  · exact n _ _ rfl
  · exact prim_mk rfl rfl (by omega) (n _ _ rfl)
  · rfl
theorem set_chk (l : List Inf) : (setK l).chk 2 = 0 := by
  induction l with
  | nil => rfl
  | cons x r ih => exact chk_mk rfl (fun e => by cases e) (fun _ => rfl) (by omega) (prim_mk rfl rfl (by omega) (prim_mk rfl rfl (by omega) (more_chk x))) ih
theorem top_chk (l : List Inf) : (Ns.cons 49 [] (setK l) .nil).chk 1 = 0 := chk_mk rfl (fun e => by cases e) (fun _ => rfl) (by omega) (set_chk l) rfl
theorem enc_more (x : Inf) : (moreN x).enc.length ≤ 28 := by
  have n : ∀ z r, (numN z r).enc.length ≤ 12 + r.enc.length := fun z r => by have := enc_len 2 [ofI z] .nil r; rw [show tagC 2 = false from rfl] at this; simpa [numN] using this
  unfold moreN
  (repeat' split)
  · have := n x.r .nil; simp [Ns.enc] at this ⊢; omega
  · have h := enc_len 4 (fourB x.k) .nil (numN x.d .nil)
    have h2 := n x.d .nil
    rw [show tagC 4 = false from rfl] at h
    simp [Ns.enc, fourB_len] at h h2 ⊢
    omega
  · simp [Ns.enc]
theorem enc_kids (x : Inf) : (kidsI x).enc.length ≤ 61 := by
  have h := enc_len 6 (identB x.p) .nil (numN x.v (moreN x))
  have h2 := enc_len 2 [ofI x.v] .nil (moreN x)
  have h3 := enc_more x
  rw [show tagC 6 = false from rfl] at h
  rw [show tagC 2 = false from rfl] at h2
  simp only [identB_len, List.length_cons, List.length_nil, Bool.false_eq_true, if_false] at h h2
  show (Ns.cons 6 (identB x.p) .nil (numN x.v (moreN x))).enc.length ≤ 61
  have e : numN x.v (moreN x) = .cons 2 [ofI x.v] .nil (moreN x) := rfl
  rw [e] at h ⊢
  omega
theorem enc_set (l : List Inf) : (setK l).enc.length ≤ 72 * l.length := by
  induction l with
  | nil => simp [setK, Ns.enc]
  | cons x r ih =>
    have h := enc_len 48 [] (kidsI x) (setK r)
    have h2 := enc_kids x
    rw [show tagC 48 = true from rfl] at h
    simp only [if_true] at h
    simp only [setK, List.length_cons]
    omega
/-- Valid infos are encoded. -/
theorem encI_ok {l : List Inf} (h : validP l = 0) : encI l = .ok (Ns.cons 49 [] (setK l) .nil).enc ∧ (Ns.cons 49 [] (setK l) .nil).enc.length ≤ 4096 ∧ (Ns.cons 49 [] (setK l) .nil).all ≤ 256 := by
  have h16 := valid_len h
  have h1 := enc_set l
  have h2 := enc_len 49 [] (setK l) .nil
  rw [show tagC 49 = true from rfl] at h2
  simp only [if_true, show (Ns.nil).enc.length = 0 from rfl] at h2
  have h3 := setK_all l
  have ha : (Ns.cons 49 [] (setK l) .nil).all ≤ 256 := by simp only [Ns.all]; omega
  refine ⟨?_, by omega, ha⟩
  unfold encI
  rw [if_pos h]
  unfold encP
  rw [if_neg (by rw [top_chk]; simp), if_neg (by omega), if_neg (by omega)]
theorem numV_byte {z : Int} (h0 : 0 ≤ z) (h1 : z ≤ 255) : numV [ofI z] = z := by rw [numV_one, bv_in h0 (by omega)]
theorem byte_numV {v : List UInt8} (h : v.length = 1) : [ofI (numV v)] = v ∧ 0 ≤ numV v ∧ numV v ≤ 255 := by
  match v, h with
  | [b], _ =>
    rw [numV_one]
    exact ⟨by rw [ofI_bv], bv_nn b, by have := bv_lt b; omega⟩
theorem numV_fourB {k : Int} (h0 : 0 ≤ k) (h1 : k < 4294967296) : numV (fourB k) = k := by
  simp only [numV, fourB, List.foldl_cons, List.foldl_nil, bv_ofI]
  omega
theorem fourB_numV {v : List UInt8} (h : v.length = 4) : fourB (numV v) = v := by
  match v, h with
  | [a, b, c, d], _ =>
    have ha := bv_lt a; have hb := bv_lt b; have hc := bv_lt c; have hd := bv_lt d
    have na := bv_nn a; have nb := bv_nn b; have nc := bv_nn c; have nd := bv_nn d
    have e : numV [a, b, c, d] = 16777216 * bv a + 65536 * bv b + 256 * bv c + bv d := by
      show 256 * (256 * (256 * (256 * 0 + bv a) + bv b) + bv c) + bv d = _
      omega
    unfold fourB
    rw [e]
    have q : ∀ (z : Int) (x : UInt8), z % 256 = bv x → ofI z = x := fun z x h => by rw [← ofI_bv x, ← h, ofI_mod]
    rw [q _ a (by omega), q _ b (by omega), q _ c (by omega), q _ d (by omega)]
theorem prot_ident {p : Int} (h : 2 ≤ p ∧ p ≤ 6) : protP (identB p) = p := by
  obtain rfl | rfl | rfl | rfl | rfl : p = 2 ∨ p = 3 ∨ p = 4 ∨ p = 5 ∨ p = 6 := by omega
  all_goals decide
theorem prot_inv {v : List UInt8} (h : ¬ protP v = 0) : v = identB (protP v) ∧ 2 ≤ protP v ∧ protP v ≤ 6 := by
  unfold protP at h ⊢
  (repeat' split)
  all_goals first
    | exact ⟨by assumption, by decide, by decide⟩
    | simp_all
theorem Ns.nil_of {k : Ns} (h : k.len = 0) : k = .nil := by
  cases k with
  | nil => rfl
  | cons _ _ _ _ => simp [Ns.len] at h
theorem chkB_inv {p v r k d : Int} {mb cb eb : Bool} (h : chkB p v r k d mb cb eb = 0) : (2 ≤ p ∧ p ≤ 6) ∧ (1 ≤ v ∧ v ≤ 255) ∧ (0 ≤ r ∧ r ≤ if mb = true then 31 else 0) ∧ (0 ≤ d ∧ d ≤ if cb = true then 255 else 0) ∧ ¬ (cb = true ∧ eb = false ∨ cb = false ∧ ¬ k = 0) := by
  unfold chkB at h
  obtain ⟨M, hM⟩ : ∃ M : Int, (if mb = true then 31 else 0) = M := ⟨_, rfl⟩
  obtain ⟨C, hC⟩ : ∃ C : Int, (if cb = true then 255 else 0) = C := ⟨_, rfl⟩
  rw [hM, hC] at h
  rw [hM, hC]
  by_cases h1 : 2 ≤ p ∧ p ≤ 6
  · rw [if_neg (fun e => e h1)] at h
    by_cases h2 : v < 1 ∨ 255 < v
    · rw [if_pos h2] at h; cases h
    · rw [if_neg h2] at h
      by_cases h3 : r < 0 ∨ M < r
      · rw [if_pos h3] at h; cases h
      · rw [if_neg h3] at h
        by_cases h4 : d < 0 ∨ C < d
        · rw [if_pos h4] at h; cases h
        · rw [if_neg h4] at h
          by_cases h5 : cb = true ∧ eb = false ∨ cb = false ∧ ¬ k = 0
          · rw [if_pos h5] at h; cases h
          · exact ⟨h1, by omega, by omega, by omega, h5⟩
  · rw [if_pos h1] at h; cases h
theorem chk_inv {p v r k d : Int} (h : chkI ⟨p, v, r, k, d⟩ = 0) : (2 ≤ p ∧ p ≤ 6) ∧ (1 ≤ v ∧ v ≤ 255) ∧ (0 ≤ r ∧ (p = 2 ∨ p = 3 → r ≤ 31) ∧ (¬ (p = 2 ∨ p = 3) → r = 0)) ∧ (0 ≤ d ∧ (p = 4 → d ≤ 255) ∧ (¬ p = 4 → d = 0 ∧ k = 0)) ∧ (p = 4 → 0 < k ∧ k < 2147483579) := by
  obtain ⟨h1, h2, h3, h4, h5⟩ := chkB_inv (show chkB p v r k d (decide (p = 2) || decide (p = 3)) (p == 4) (elemP k) = 0 from h)
  refine ⟨h1, h2, ⟨h3.1, fun hm => ?_, fun hm => ?_⟩, ⟨h4.1, fun hp => ?_, fun hp => ?_⟩, fun hp => ?_⟩
  · have e : (decide (p = 2) || decide (p = 3)) = true := by simpa using hm
    rw [e, if_pos rfl] at h3; exact h3.2
  · have e : (decide (p = 2) || decide (p = 3)) = false := by simpa using hm
    rw [e, if_neg (by simp)] at h3; omega
  · subst hp
    simpa using h4.2
  · have e : (p == 4) = false := by simp [hp]
    rw [e] at h4 h5
    rw [if_neg (by simp)] at h4
    exact ⟨by omega, Decidable.not_not.1 fun hk => h5 (.inr ⟨rfl, hk⟩)⟩
  · subst hp
    have hk : elemP k = true := by
      cases e : elemP k with
      | true => rfl
      | false => exact absurd (.inl ⟨rfl, e⟩) h5
    unfold elemP at hk
    simp only [Bool.and_eq_true, decide_eq_true_eq] at hk
    exact hk.1.1
theorem info_back {x : Inf} (h : chkI x = 0) : infoP 48 (kidsI x) = some x := by
  obtain ⟨p, v, r, k, d⟩ := x
  obtain ⟨hp, hv, hr, hd, hk⟩ := chk_inv h
  show infoP 48 (.cons 6 (identB p) .nil (numN v (moreN ⟨p, v, r, k, d⟩))) = some ⟨p, v, r, k, d⟩
  simp only [infoP, numN, not_true_eq_false, if_false, if_true, prot_ident hp]
  rw [fieldsP.eq_def]
  simp only []
  rw [if_neg (by omega)]
  by_cases hm : p = 2 ∨ p = 3
  · have h4 : ¬ p = 4 := by omega
    rw [if_pos hm]
    simp only [moreN, if_pos hm, numN]
    rw [if_pos ⟨trivial, rfl, trivial, rfl⟩, numV_byte (by omega) (by omega), numV_byte (by omega) (by omega), (hd.2.2 h4).1, (hd.2.2 h4).2]
  · rw [if_neg hm]
    have hr0 := hr.2.2 hm
    by_cases h4 : p = 4
    · rw [if_pos h4]
      simp only [moreN, if_neg hm, if_pos h4, numN]
      rw [if_pos ⟨trivial, rfl, trivial, rfl, trivial, rfl⟩, numV_byte (by omega) (by omega), numV_byte (by omega) (by omega), numV_fourB (by omega) (by omega), hr0]
    · rw [if_neg h4]
      simp only [moreN, if_neg hm, if_neg h4]
      rw [if_pos ⟨trivial, rfl⟩, numV_byte (by omega) (by omega), hr0, (hd.2.2 h4).1, (hd.2.2 h4).2]
theorem infos_back : ∀ (l : List Inf), (∀ x ∈ l, chkI x = 0) → infosP (setK l) = some l := by
  intro l
  induction l with
  | nil => intro _; rfl
  | cons x r ih =>
    intro h
    simp only [setK, infosP, info_back (h x (by simp)), ih fun y hy => h y (by simp [hy])]
theorem valid_all : ∀ (l : List Inf) (q : Option Inf), validF q l = 0 → ∀ x ∈ l, chkI x = 0 := by
  intro l
  induction l with
  | nil => intro _ _ x hx; simp at hx
  | cons y r ih =>
    intro q h x hx
    obtain ⟨h1, h2⟩ := validF_cons h
    rcases List.mem_cons.1 hx with rfl | hx
    · exact h1
    · exact ih _ h2 x hx
/-- INFOS ARE READ AS THEY WERE WRITTEN. -/
theorem infos_returns {l : List Inf} (h : validP l = 0) : ∃ b, encI l = .ok b ∧ decI b = .ok l ∧ b.length ≤ 4096 := by
  obtain ⟨h1, h2, h3⟩ := encI_ok h
  refine ⟨_, h1, ?_, h2⟩
  have hp := codes_parseP true _ _ (enc_codes true (Ns.cons 49 [] (setK l) .nil) (by omega)) (top_chk l) h3 h2
  have hv : validF none l = 0 := by
    have h9 := h
    unfold validP at h9
    split at h9
    · cases h9
    · exact h9
  unfold decI
  rw [hp]
  simp only [if_true, infos_back l (valid_all l none hv), if_pos h]
theorem info_inv {t : Int} {K : Ns} {x : Inf} (h : infoP t K = some x) (hk : K.prims) : t = 48 ∧ K = kidsI x := by
  unfold infoP at h
  split at h
  · cases h
  · rename_i ht
    refine ⟨by omega, ?_⟩
    split at h
    · rename_i t0 v0 k0 t1 v1 k1 r
      split at h
      · rename_i h6
        subst h6
        obtain ⟨g0, g1, gr⟩ := hk
        have e0 : k0 = .nil := Ns.nil_of (g0 (by omega))
        subst e0
        rw [fieldsP.eq_def] at h
        simp only [] at h
        split at h
        · cases h
        · rename_i hp
          obtain ⟨hv, hp2, hp6⟩ := prot_inv hp
          obtain ⟨p, hpp⟩ : ∃ p, protP v0 = p := ⟨_, rfl⟩
          rw [hpp] at h hv hp2 hp6
          subst hv
          split at h
          · rename_i hm
            split at h
            · rename_i t2 v2 k2
              split at h
              · rename_i hc
                obtain ⟨rfl, c1, rfl, c2⟩ := hc
                injection h with h
                subst h
                have e1 : k1 = .nil := Ns.nil_of (g1 (by omega))
                have e2 : k2 = .nil := Ns.nil_of (gr.1 (by omega))
                subst e1 e2
                simp only [kidsI, moreN, if_pos hm, numN, (byte_numV c1).1, (byte_numV c2).1]
              · cases h
            · cases h
          · rename_i hm
            split at h
            · rename_i h4
              split at h
              · rename_i t2 v2 k2 t3 v3 k3
                split at h
                · rename_i hc
                  obtain ⟨rfl, c1, rfl, c2, rfl, c3⟩ := hc
                  injection h with h
                  subst h
                  have e1 : k1 = .nil := Ns.nil_of (g1 (by omega))
                  have e2 : k2 = .nil := Ns.nil_of (gr.1 (by omega))
                  have e3 : k3 = .nil := Ns.nil_of (gr.2.1 (by omega))
                  subst e1 e2 e3
                  simp only [kidsI, moreN, if_neg hm, if_pos h4, numN, (byte_numV c1).1, fourB_numV c2, (byte_numV c3).1]
                · cases h
              · cases h
            · rename_i h4
              split at h
              · split at h
                · rename_i hc
                  obtain ⟨rfl, c1⟩ := hc
                  injection h with h
                  subst h
                  have e1 : k1 = .nil := Ns.nil_of (g1 (by omega))
                  subst e1
                  simp only [kidsI, moreN, if_neg hm, if_neg h4, numN, (byte_numV c1).1]
                · cases h
              · cases h
      · cases h
    · cases h
theorem set_inv : ∀ (K : Ns) (d : Nat) (l : List Inf), K.chk d = 0 → infosP K = some l → K = setK l := by
  intro K
  induction K with
  | nil =>
    intro d l _ h
    injection h with h
    subst h
    rfl
  | cons t v k r _ ih =>
    intro d l hc h
    obtain ⟨_, _, c2, _, c4, c5⟩ := chk_cons hc
    unfold infosP at h
    split at h
    · cases h
    · rename_i x hx
      split at h
      · cases h
      · rename_i m hm
        injection h with h
        subst h
        obtain ⟨rfl, rfl⟩ := info_inv hx (prims_chk k _ c4)
        have e := c2 rfl
        subst e
        rw [ih d m c5 hm]
        rfl
/-- INFOS ARE WRITTEN AS THEY WERE READ. -/
theorem infos_written {c : List UInt8} {n : List Inf} (h : decI c = .ok n) : encI n = .ok c := by
  unfold decI at h
  split at h
  · cases h
  · rename_i t v k hp
    split at h
    · rename_i ht
      subst ht
      split at h
      · cases h
      · rename_i l hl
        split at h
        · rename_i hv
          injection h with h
          subst h
          have he := (strict_parse hp).1
          have hc : (Ns.cons 49 v k .nil).chk 1 = 0 := by
            have h9 := he
            unfold encP at h9
            split at h9
            · cases h9
            · omega
          obtain ⟨_, _, c2, _, c4, _⟩ := chk_cons hc
          have e := c2 rfl
          subst e
          have ek := set_inv k _ l c4 hl
          rw [ek] at he
          unfold encI
          rw [if_pos hv]
          exact he
        · cases h
    · cases h
  · cases h
end Go.Proofs.YtdpiehhblflacaaDoor
/- Layer 14: SecurityinfoReturns: infos are read as they were written, and written as they were read. -/
namespace Go.Proofs.YtdpiehhblflacaaDoor
open Go.RowKit Go.Deep

/-- What stands beside the dice. -/
def BaseI (w : World) (n : Nat) (wx : World) : Prop := Die (w.heap.size + 1) wx w.heap.size n ∧ Below w.heap.size w wx
theorem BaseI.dice {w wx wy : World} {n : Nat} (h : BaseI w n wx) (hd : DiePost (w.heap.size + 1) wx w.heap.size n wy) : BaseI w n wy :=
  ⟨hd.1, h.2.grown hd.2 h.2.size (fun k e => by injection e with e; omega)⟩
theorem BaseI.on {w wx wy : World} {n : Nat} (h : BaseI w n wx) (hb : Below wx.heap.size wx wy) : BaseI w n wy :=
  ⟨h.1.below (hb.mono h.1.le), h.2.trans (hb.mono h.2.size)⟩
theorem BaseI.lt {w wx : World} {n : Nat} (h : BaseI w n wx) : w.heap.size < wx.heap.size := h.1.le
theorem BaseI.draw {w wx : World} {n : Nat} (h : BaseI w n wx) (k : Nat) : BaseI w n (wx.drewN k) := h.on (below_drewN (Below.refl _ _) k)
theorem BaseI.tab {w wx : World} {n : Nat} (h : BaseI w n wx) (hT : TabE w) : TabE wx := hT.below h.2 hT.lt
/-- Away from the dice. -/
abbrev OffD (p : Nat) (w : World) : Nat → Prop := fun b => b < w.heap.size ∧ b ≠ p
theorem InfS.on {w w' : World} {p : Nat} {v : Value} {l : List Inf} (h : InfS w (OffD p w) v l) (hb : Below w.heap.size w w') : InfS w' (OffD p w') v l :=
  h.keep fun b hs hl => ⟨hb.block b hl, Nat.lt_of_lt_of_le hs.1 hb.size, hs.2⟩
theorem BsS.onI {w w' : World} {p : Nat} {v : Value} {l : List UInt8} (h : BsS w (OffD p w) v l) (hb : Below w.heap.size w w') : BsS w' (OffD p w') v l :=
  h.keep fun b hs hl => ⟨hb.block b hl, Nat.lt_of_lt_of_le hs.1 hb.size, hs.2⟩
theorem InfS.diceI {B n : Nat} {w w' : World} {p : Nat} {v : Value} {l : List Inf} (h : InfS w (OffD p w) v l) (hd : DiePost B w p n w') : InfS w' (OffD p w') v l :=
  h.keep fun b hs hl => ⟨hd.2.block b hl (by intro e; injection e with e; exact hs.2 e), Nat.lt_of_lt_of_le hs.1 hd.2.size, hs.2⟩
theorem BsS.diceI {B n : Nat} {w w' : World} {p : Nat} {v : Value} {l : List UInt8} (h : BsS w (OffD p w) v l) (hd : DiePost B w p n w') : BsS w' (OffD p w') v l :=
  h.keep fun b hs hl => ⟨hd.2.block b hl (by intro e; injection e with e; exact hs.2 e), Nat.lt_of_lt_of_le hs.1 hd.2.size, hs.2⟩
theorem InfS.madeI {w w' : World} {p : Nat} {v : Value} {l : List Inf} (h : InfS w' (New w w') v l) (hp : p < w.heap.size) : InfS w' (OffD p w') v l :=
  h.keep fun b hs hl => ⟨rfl, hl, fun e => by have := hs.1; omega⟩
theorem BsS.madeI {w w' : World} {p : Nat} {v : Value} {l : List UInt8} (h : BsS w' (New w w') v l) (hp : p < w.heap.size) : BsS w' (OffD p w') v l :=
  h.keep fun b hs hl => ⟨rfl, hl, fun e => by have := hs.1; omega⟩
theorem BsS.bsI {w : World} {p : Nat} {v : Value} {l : List UInt8} (h : BsS w (OffD p w) v l) : Bs w w.heap.size v l := h.keep fun _ hs _ => ⟨rfl, hs.1⟩
theorem decI_err {b : List UInt8} {er : Int} (h : decI b = .error er) : er ≠ 0 := by
  unfold decI at h
  split at h
  · rename_i hp
    injection h with h
    subst h
    exact parseP_err0 hp
  · split at h
    · split at h
      · injection h with h; omega
      · split at h
        · cases h
        · rename_i hv
          injection h with h
          rw [← h]; exact hv
    · injection h with h; omega
  · injection h with h; omega
theorem InfsOut.err {er : Int} {w : World} {e : Ending} {w' : World} (h : InfsOut (.error er) w e w') : ∃ a c, e = .returned (.tuple #[.slice a 0 c, .int .i64 er]) ∧ Below w.heap.size w w' := by
  obtain ⟨v, h1, h2, h3⟩ := h
  obtain ⟨a, c, rfl⟩ := h2.form
  exact ⟨a, c, h1, h3⟩
set_option maxRecDepth 100000 in
set_option maxHeartbeats 4000000 in
theorem securityinfoReturns_law (v : Value) (n : Nat) (w : World) (hT : TabE w) (hv : IntsS w (· < w.heap.size) v n) : Calls Tryd.prog 5 #[v] w fun e w' => e = .returned (.bool true) ∧ Below w.heap.size w w' := by
  have HL := Lib.hid (light_any _ v n w hv)
  have HR := Lib.hid (roll_any v n w hv)
  have HT := Lib.hid hT
  obtain ⟨va, vc, rfl⟩ := hv.form
  clear hv hT
  by_cases hn : (n : Int) ≤ 400
  · have hn1 : decide ((n : Int) ≤ 400) = true := decide_eq_true hn
    rw [hn1] at HL
    clear hn hn1
    go_enter Tryd.func5, Tryd.ntmps5
    go_upto_region 10 with (first
      | (go_at_call 22; refine (spoil_any _ _ n bb _ _ HB7.out (by have := HBL.out; omega) B7.out.1).mono ?_; rintro e w8 ⟨v8, cc, rfl, h8, hl8, hd⟩; obtain ⟨a8, c8, rfl⟩ := h8.form2; have HC8 := Lib.hid (h8.madeI B7.out.lt); have B8 := Lib.hid (B7.out.dice hd); have HCL : Hid (cc.length ≤ 4097) := (by have := HBL.out; show cc.length ≤ 4097; omega); clear hd h8 hl8)
      | (go_at_call 16; refine (isame_any _ _ _ _ _ _ _ HI6.out HM6.out).mono ?_; rintro e w7 ⟨rfl, nd, hw7⟩; have hb7 : Below w6.heap.size w6 w7 := (by rw [hw7]; exact below_drewN (Below.refl _ _) nd); have B7 := Lib.hid (B6.out.on hb7); have HB7 := Lib.hid (HB6.out.onI hb7); clear hw7 hb7; rw [dec_self])
      | (go_at_call 12; refine (awakeI_any _ (B5.out.tab HT.out)).mono ?_; rintro e w6 ⟨rfl, hb⟩; have HI6 := Lib.hid (HI5.out.on hb); have HB6 := Lib.hid (HB5.out.onI hb); have HM6 := Lib.hid (HM5.out.on hb); have B6 := Lib.hid (B5.out.on hb); clear hb)
      | (go_at_call 10; refine (idecode_any bb _ _ (B4.out.tab HT.out) HB4.out.bsI).mono ?_; rintro e w5 h5; rw [HDE.out] at h5; obtain ⟨a5, c5, rfl, h5, hb⟩ := h5.got; have HI5 := Lib.hid (HI4.out.on hb); have HB5 := Lib.hid (HB4.out.onI hb); have HM5 := Lib.hid (h5.madeI B4.out.lt); have B5 := Lib.hid (B4.out.on hb); clear hb h5)
      | (go_at_call 8; refine (iencode_any l _ _ _ (B3.out.tab HT.out) HI3.out).mono ?_; rintro e w4 h4; rw [HEN.out] at h4; obtain ⟨a4, c4, rfl, h4, hb⟩ := h4.got; have HI4 := Lib.hid (HI3.out.on hb); have HB4 := Lib.hid (h4.madeI B3.out.lt); have B4 := Lib.hid (B3.out.on hb); clear hb h4)
      | (go_at_call 19; refine (infos_any _ _ n _ B1.out.1).mono ?_; rintro e w3 ⟨v3, rfl, l, hi, hl, hok, hd⟩; obtain ⟨bb, hen, hde, hbl⟩ := infos_returns hok; obtain ⟨a3, c3, rfl⟩ := hi.form; have HEN := Lib.hid hen; have HDE := Lib.hid hde; have HBL := Lib.hid hbl; have HI3 := Lib.hid (hi.madeI B1.out.lt); have B3 := Lib.hid (B1.out.dice hd); clear hi hl hok hd hen hde hbl)
      | (go_at_call 17; refine HL.out.mono ?_; rintro e w' ⟨rfl, hw'⟩; rw [hw']; clear hw' w')
      | (go_at_call 18; refine HR.out.mono ?_; rintro e w1 ⟨rfl, hd, hb⟩; have B1 : Hid (BaseI w n w1) := ⟨hd, hb⟩; clear hd hb))
    cases hrd : decI cc with
    | error er =>
      have HRD := Lib.hid hrd
      have her := decI_err hrd
      have her' : (er != 0) = true := by simp [her]
      clear hrd her
      go_wp2_with (go_at_call 10; refine (idecode_any cc _ _ (B8.out.tab HT.out) HC8.out.bsI).mono ?_; rintro e w9 h9; rw [HRD.out] at h9; obtain ⟨a9, c9, rfl, hb⟩ := h9.err; have B9 := Lib.hid (B8.out.on hb); clear hb h9)
      go_ret
      exact ⟨rfl, B9.out.2⟩
    | ok nn =>
      have HRD := Lib.hid hrd
      have HWR := Lib.hid (infos_written hrd)
      clear hrd
      go_wp2_with (first
        | (go_at_call 15; refine (same_any _ _ _ _ _ _ _ HX10.out HC10.out).mono ?_; rintro e w11 ⟨rfl, nd, hw11⟩; have B11 : Hid (BaseI w n w11) := (by rw [hw11]; exact B10.out.draw nd); clear hw11; rw [dec_self])
        | (go_at_call 8; refine (iencode_any nn _ _ _ (B9.out.tab HT.out) HN9.out).mono ?_; rintro e w10 h10; rw [HWR.out] at h10; obtain ⟨a10, c10, rfl, h10, hb⟩ := h10.got; have HX10 := Lib.hid h10; have HC10 := Lib.hid (HC9.out.onI hb); have B10 := Lib.hid (B9.out.on hb); clear hb h10)
        | (go_at_call 10; refine (idecode_any cc _ _ (B8.out.tab HT.out) HC8.out.bsI).mono ?_; rintro e w9 h9; rw [HRD.out] at h9; obtain ⟨a9, c9, rfl, h9, hb⟩ := h9.got; have HN9 := Lib.hid (h9.madeI B8.out.lt); have HC9 := Lib.hid (HC8.out.onI hb); have B9 := Lib.hid (B8.out.on hb); clear hb h9))
      go_ret
      exact ⟨rfl, B11.out.2⟩
  · have hn1 : decide ((n : Int) ≤ 400) = false := decide_eq_false hn
    rw [hn1] at HL
    clear hn hn1
    go_enter Tryd.func5, Tryd.ntmps5
    go_wp2_with (first
      | (go_at_call 17; refine HL.out.mono ?_; rintro e w' ⟨rfl, hw'⟩; rw [hw']; clear hw' w')
      | (go_at_call 12; refine (awakeI_any w HT.out).mono ?_; rintro e w2 ⟨rfl, h2⟩; have H2 := Lib.hid h2; clear h2))
    go_ret
    exact ⟨rfl, H2.out⟩
end Go.Proofs.YtdpiehhblflacaaDoor
