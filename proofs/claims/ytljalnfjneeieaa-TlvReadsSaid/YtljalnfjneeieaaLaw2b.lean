/- Layer 2: TlvReads. -/
import Derived.Test.YtljalnfjneeieaaLaw2a
import Derived.Test.YtljalnfjneeieaaTlvP
import Derived.Test.YtljalnfjneeieaaTlvQ
import Derived.Test.YtljalnfjneeieaaSameN
namespace Go.Proofs.Ytljalnfjneeieaa
open Go.RowKit Go.Deep

theorem str_eq (l : List UInt8) : ((⟨l.toArray⟩ : ByteArray) == ⟨l.toArray⟩) = true := by rw [bytes_beq']; simp
set_option maxRecDepth 100000 in
set_option maxHeartbeats 2000000 in
theorem tlvReads_law (v : Value) (l : List UInt8) (hlen : l.length ≤ 140737488351232) (st : Bool) (w : World) (hv : Bs w w.heap.size v l) : Calls Try.prog 8 #[v, .bool st] w fun e w' => e = .returned (.bool true) ∧ Below w.heap.size w w' := by
  have HV : ∀ w', Below w.heap.size w w' → Bs w' w'.heap.size v l := fun w' h => hv.keep fun b hs hl => ⟨h.block b hl, Nat.lt_of_lt_of_le hs h.size⟩
  have HV2 := Lib.hid HV
  obtain ⟨A, n, c, rfl⟩ := hv.form
  clear hv hlen HV
  obtain ⟨ep, hep⟩ : ∃ x, Hid (x = errOf (parseP l st)) := ⟨_, rfl⟩
  obtain ⟨es, hes⟩ : ∃ x, Hid (x = errOf (sizeQ l)) := ⟨_, rfl⟩
  obtain ⟨ec, hec⟩ : ∃ x, Hid (x = errOf (canonP l)) := ⟨_, rfl⟩
  obtain ⟨ns, hns⟩ : ∃ x, Hid (x = numOf (sizeQ l)) := ⟨_, rfl⟩
  obtain ⟨bc, hbc⟩ : ∃ x, Hid (x = bytesOf (canonP l)) := ⟨_, rfl⟩
  have k0 : Hid (Below w.heap.size w w) := Below.refl _ _
  go_enter Try.func8, Try.ntmps8
  go_wp2_with (first
    | (go_at_call 22; refine (parse_any l _ st _ (HV2.out _ k0.out)).mono ?_; rintro e w1 ⟨v1, rfl, hv1, hb1⟩; obtain ⟨a1, c1, rfl⟩ := hv1.form2; rw [← hep.out]; have H1 := Lib.hid hv1; have k1 := Lib.hid hb1; clear hv1 hb1)
    | (go_at_call 30; refine (rparse_any l _ st _ (HV2.out _ k1.out)).mono ?_; rintro e w2 ⟨v2, rfl, hv2, hb2⟩; obtain ⟨a2, c2, rfl⟩ := hv2.form2; rw [← hep.out]; have H2 := Lib.hid hv2; have k2 := Lib.hid (k1.out.trans (hb2.mono k1.out.size)); have H1 := Lib.hid (H1.out.below hb2); clear hv2 hb2)
    | (go_at_call 29; refine (size_any l _ _ (HV2.out _ k2.out)).mono ?_; rintro e w3 ⟨rfl, hb3⟩; rw [← hes.out, ← hns.out]; have k3 := Lib.hid (k2.out.trans (hb3.mono k2.out.size)); have H1 := Lib.hid (H1.out.below hb3); have H2 := Lib.hid (H2.out.below hb3); clear hb3)
    | (go_at_call 31; refine (rsizeQ_any l _ _ (HV2.out _ k3.out)).mono ?_; rintro e w4 ⟨rfl, hb4⟩; rw [← hes.out, ← hns.out]; have k4 := Lib.hid (k3.out.trans (hb4.mono k3.out.size)); have H1 := Lib.hid (H1.out.below hb4); have H2 := Lib.hid (H2.out.below hb4); clear hb4)
    | (go_at_call 27; refine (canon_any l _ _ (HV2.out _ k4.out)).mono ?_; rintro e w5 ⟨v5, rfl, hv5, hb5⟩; obtain ⟨a5, c5, rfl⟩ := hv5.form2; rw [← hec.out]; rw [← hbc.out] at hv5 ⊢; have k5 := Lib.hid (k4.out.trans (hb5.mono k4.out.size)); have H1 := Lib.hid (H1.out.below hb5); have H2 := Lib.hid (H2.out.below hb5); have H5 := Lib.hid hv5; clear hv5 hb5)
    | (go_at_call 32; refine (rcanon_any l _ _ (HV2.out _ k5.out)).mono ?_; rintro e w6 ⟨v6, rfl, hv6, hb6⟩; obtain ⟨a6, c6, rfl⟩ := hv6.form2; rw [← hec.out]; rw [← hbc.out] at hv6 ⊢; have k6 := Lib.hid (k5.out.trans (hb6.mono k5.out.size)); have H1 := Lib.hid (H1.out.below hb6); have H2 := Lib.hid (H2.out.below hb6); have H5 := Lib.hid (H5.out.below hb6); have H6 := Lib.hid hv6; clear hv6 hb6)
    | (go_at_call 11; refine (awake_any _).mono ?_; rintro e w7 ⟨rfl, hb7⟩; have k7 := Lib.hid (k6.out.trans (hb7.mono k6.out.size)); have H1 := Lib.hid (H1.out.below hb7); have H2 := Lib.hid (H2.out.below hb7); have H5 := Lib.hid (H5.out.below hb7); have H6 := Lib.hid (H6.out.below hb7); clear hb7)
    | (go_at_call 24; refine (rsame_any _ _ _ _ _ _ _ _ (Nat.le_refl _) H1.out H2.out).mono ?_; rintro e w8 ⟨rfl, m, rfl⟩; rw [Ns.same_refl]; have s1 := str_runN H5.out m; have s2 := str_runN H6.out m))
  go_ret
  exact ⟨by simp, below_drewN k7.out _⟩
end Go.Proofs.Ytljalnfjneeieaa
