/- Layer 2: when two lists of objects are the same, and the walk of the reference's Same. -/
import Derived.Test.YtljalnfjneeieaaTlv3
import Derived.Test.YtljalnfjneeieaaStr
import Derived.Deep.QuietTactic
import Derived.BigQuiet
import Derived.Deep.LoopGhost
namespace Go.Proofs.Ytljalnfjneeieaa
open Go.RowKit Go.Deep

def Ns.same : Ns → Ns → Bool
  | .nil, .nil => true
  | .cons t v k r, .cons t' v' k' r' => decide (t = t') && decide (v = v') && k.same k' && r.same r'
  | _, _ => false
theorem Ns.same_iff (a : Ns) : ∀ b, a.same b = true ↔ a = b := by
  induction a with
  | nil => intro b; cases b <;> simp [Ns.same]
  | cons t v k r ihk ihr =>
    intro b
    cases b with
    | nil => simp [Ns.same]
    | cons t' v' k' r' => simp [Ns.same, ihk, ihr, and_assoc]
theorem Ns.same_refl (a : Ns) : a.same a = true := (Ns.same_iff a a).2 rfl
theorem Ns.same_len {a b : Ns} (h : a.len ≠ b.len) : a.same b = false := by
  cases e : a.same b with
  | false => rfl
  | true => exact absurd (by rw [(Ns.same_iff a b).1 e]) h
theorem str_runN {w : World} {S : Nat → Prop} {A : Option Addr} {n c : Nat} {l : List UInt8} (h : BsS w S (.slice A n c) l) (m : Nat) : (convert 25 9 (.slice A n c)).run Try.prog (w.drewN m) = .ok (.string ⟨l.toArray⟩) (w.drewN m) :=
  str_run (h.keep fun _ hs _ => ⟨rfl, hs⟩)
theorem bytes_beq' (a b : List UInt8) : ((⟨a.toArray⟩ : ByteArray) == ⟨b.toArray⟩) = decide (a = b) := by
  have h : ((⟨a.toArray⟩ : ByteArray) == ⟨b.toArray⟩) = (a.toArray == b.toArray) := rfl
  rw [h]
  by_cases e : a = b
  · subst e; simp
  · simp [e]
theorem bytes_ne_self (a : List UInt8) : ((⟨a.toArray⟩ : ByteArray) != ⟨a.toArray⟩) = false := by
  rw [bne, bytes_beq']; simp
theorem bytes_ne {a b : List UInt8} (h : a ≠ b) : ((⟨a.toArray⟩ : ByteArray) != ⟨b.toArray⟩) = true := by
  rw [bne, bytes_beq']; simp [h]
theorem NsS.drewN {w : World} {S : Nat → Prop} {v : Value} {l : Ns} (h : NsS w S v l) (m : Nat) : NsS (w.drewN m) S v l := h.keep fun _ hs _ => ⟨rfl, hs⟩
theorem quiet_at {P : Program} {f : FuncId} {args : Array Value} {w : World} {q n : Nat} {v : Value}
    (h : Calls P f args (w.drewN (q + n)) fun e w' => e = .returned v ∧ ∃ m, w' = (w.drewN (q + n)).drewN m) : Calls P f args (w.drewN (q + n)) fun e w'' => e = .returned v ∧ ∃ m, w'' = w.drewN (q + m) :=
  h.mono fun _ _ ⟨he, m, hm⟩ => ⟨he, n + m, by rw [hm, World.drewN_drewN, Nat.add_assoc]⟩
set_option maxRecDepth 100000 in
set_option maxHeartbeats 2000000 in
theorem rsame_any (n : Nat) : ∀ (a b : Ns) (va vb : Value) (S S' : Nat → Prop) (w : World), a.all ≤ n → NsS w S va a → NsS w S' vb b →
    Calls Try.prog 24 #[va, vb] w fun e w' => e = .returned (.bool (a.same b)) ∧ ∃ m, w' = w.drewN m := by
  induction n using Nat.strongRecOn with
  | ind n ih =>
    intro a b va vb S S' w hn ha hb
    obtain ⟨aa, ca, rfl, _, _, hla, hca⟩ := ha
    obtain ⟨ab, cb, rfl, _, _, hlb, hcb⟩ := hb
    by_cases hl : a.len = b.len
    · have hne : ((a.len : Int) != (b.len : Int)) = false := by simp; omega
      obtain ⟨ba, oa, Ha⟩ : ∃ p o, Hid (0 < a.len → aa = some ⟨p, o, none⟩ ∧ True ∧ NsAt w S a p o) := by
        rcases Nat.eq_zero_or_pos a.len with h0 | h0
        · exact ⟨0, 0, fun h => by omega⟩
        · obtain ⟨p, o, h1, _, _, h4⟩ := hca h0
          exact ⟨p, o, fun _ => ⟨h1, trivial, h4⟩⟩
      obtain ⟨bb, ob, Hb⟩ : ∃ p o, Hid (0 < b.len → ab = some ⟨p, o, none⟩ ∧ True ∧ NsAt w S' b p o) := by
        rcases Nat.eq_zero_or_pos b.len with h0 | h0
        · exact ⟨0, 0, fun h => by omega⟩
        · obtain ⟨p, o, h1, _, _, h4⟩ := hcb h0
          exact ⟨p, o, fun _ => ⟨h1, trivial, h4⟩⟩
      have Hl := Lib.hid hl
      have hl1 : a.len ≤ b.len := by omega
      have hl2 : b.len ≤ a.len := by omega
      clear hca hcb hl
      go_enter Try.func24, Try.ntmps24
      go_wp2_with fail
      go_loopg [5] a.len (fun m i wr => ∃ (P Q : Ns) (k : Nat), P.len = m ∧ k + P.len = a.len ∧ k + Q.len = b.len ∧ i = .int .i64 k ∧ Hid (a.same b = P.same Q) ∧ P.all ≤ n ∧ NsAt w S P ba (oa + k * 3) ∧ NsAt w S' Q bb (ob + k * 3) ∧ ∃ q, wr = w.drewN q)
      case atStart => exact ⟨a, b, 0, rfl, by omega, by omega, rfl, rfl, hn, by rw [Nat.zero_mul, Nat.add_zero]; exact NsAt.zero Ha.out, by rw [Nat.zero_mul, Nat.add_zero]; exact NsAt.zero Hb.out, 0, rfl⟩
      case round =>
        obtain ⟨P, Q, k, rfl, hk1, hk2, rfl, E, hPn, hP, hQ, q, rfl⟩ := hrel
        cases P with
        | nil =>
          cases Q with
          | cons t v kd r => simp only [Ns.len] at hk1 hk2; omega
          | nil =>
            simp only [Ns.len, Nat.add_zero] at hk1
            subst hk1
            have E2 : Hid (a.same b = true) := by rw [E.out]; rfl
            clear E hP hQ
            go_wp2_with fail
            go_ret
            exact ⟨by rw [E2.out]; rfl, q, rfl⟩
        | cons t v kd r =>
          cases Q with
          | nil => simp only [Ns.len] at hk1 hk2; omega
          | cons t' v' kd' r' =>
            obtain ⟨c1, _, ⟨x, c2, hx⟩, ⟨ka, kc, c3, kh⟩, hr⟩ := hP
            obtain ⟨c1', _, ⟨x', c2', hx'⟩, ⟨ka', kc', c3', kh'⟩, hr'⟩ := hQ
            simp only [Ns.len] at hk1 hk2
            simp only [Ns.all] at hPn
            obtain ⟨rfl, _, _⟩ := Ha.out (by omega)
            obtain ⟨rfl, _, _⟩ := Hb.out (by omega)
            obtain ⟨xa, xc, rfl⟩ := hx.form2
            obtain ⟨xa', xc', rfl⟩ := hx'.form2
            have hka : (k : Int) < a.len := by omega
            have hkb : (k : Int) < b.len := by omega
            have k0 : (0 : Int) ≤ k := by omega
            have s1 := fun m => str_runN hx m
            have s2 := fun m => str_runN hx' m
            have HR := Lib.hid hr; have HR' := Lib.hid hr'
            have HK := fun m => Lib.hid (ih kd.all (by omega) kd kd' (.slice ka kd.len kc) (.slice ka' kd'.len kc') S S' (w.drewN m) (Nat.le_refl _) (NsS.drewN ⟨ka, kc, rfl, kh⟩ m) (NsS.drewN ⟨ka', kc', rfl, kh'⟩ m))
            clear hx hx' hr hr' kh kh' ih
            by_cases ht : t = t'
            · subst ht
              have t0 : (t != t) = false := by simp
              by_cases hv : v = v'
              · subst hv
                have v0 : ((⟨v.toArray⟩ : ByteArray) != ⟨v.toArray⟩) = false := bytes_ne_self v
                cases hs : kd.same kd' with
                | true =>
                  have E2 : Hid (a.same b = r.same r') := by show a.same b = _; rw [E.out]; simp [Ns.same, hs]
                  rw [hs] at HK
                  clear E hs
                  go_wp2_with fail
                  go_quiet ((go_at_call 24; exact quiet_at (HK _).out))
                  go_wp2_with fail
                  go_roundg r.len
                  case measure => simp [Ns.len]
                  case rel =>
                    refine ⟨r, r', k + 1, rfl, by omega, by omega, by go_num, E2.out, by omega, ?_, ?_, q + nq, by simp⟩
                    · rw [Nat.add_mul, ← Nat.add_assoc]; exact HR.out
                    · rw [Nat.add_mul, ← Nat.add_assoc]; exact HR'.out
                | false =>
                  have E2 : Hid (a.same b = false) := by show a.same b = _; rw [E.out]; simp [Ns.same, hs]
                  rw [hs] at HK
                  clear E hs
                  go_wp2_with fail
                  go_quiet ((go_at_call 24; exact quiet_at (HK _).out))
                  go_wp2_with fail
                  go_ret
                  exact ⟨by rw [E2.out]; rfl, q + nq, by simp⟩
              · have v0 : (v == v') = false := by simp [hv]
                have E2 : Hid (a.same b = false) := by show a.same b = _; rw [E.out]; simp [Ns.same, hv]
                clear E
                go_wp2_with fail
                go_quiet (fail)
                go_wp2_with fail
                go_ret
                exact ⟨by rw [E2.out]; rfl, q + nq, by simp⟩
            · have E2 : Hid (a.same b = false) := by show a.same b = _; rw [E.out]; simp [Ns.same, ht]
              have t0 : (t != t') = true := by simp [ht]
              clear E ht
              go_wp2_with fail
              go_quiet (fail)
              go_wp2_with fail
              go_ret
              exact ⟨by rw [E2.out]; rfl, q + nq, by simp⟩
    · have hne : ((a.len : Int) != (b.len : Int)) = true := by simp; omega
      have E : Hid (a.same b = false) := Ns.same_len hl
      clear hca hcb hl
      go_enter Try.func24, Try.ntmps24
      go_wp2_with fail
      go_ret
      exact ⟨by rw [E.out]; rfl, 0, rfl⟩
end Go.Proofs.Ytljalnfjneeieaa
