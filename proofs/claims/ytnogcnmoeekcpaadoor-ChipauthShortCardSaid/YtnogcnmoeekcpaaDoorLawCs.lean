/- Layer 23: ChipauthShort. -/
import Derived.Test.YtnogcnmoeekcpaaDoorChi4
namespace Go.Proofs.YtnogcnmoeekcpaaDoor
open Go.RowKit Go.Deep

set_option maxRecDepth 100000 in
set_option maxHeartbeats 4000000 in
theorem chipauthShort_law (x : Int) (wx : (Lit.int .i64 x).wf = true) (w : World) (hK : KR w ∧ KD w) : Calls Tryd.prog 6 #[.int .i64 x] w fun e w' => e = .returned (.bool true) ∧ Below w.heap.size w w' := by
  have HK := Lib.hid hK
  clear hK wx
  by_cases hx : elemP x = true
  · have HX := Lib.hid hx
    clear hx
    go_enter Tryd.func6, Tryd.ntmps6
    go_wp2_with (first
      | (go_at_call 7; refine (awakeC_any w2 (HK.out.2.below B2.out HK.out.2.lt)).mono ?_; rintro e w3 ⟨rfl, hb⟩; have B3 := Lib.hid (B2.out.trans (hb.mono B2.out.size)); have s1 := str_run (((V2.out.on hb).at 1 rfl)); have s2 := str_run (((V2.out.on hb).at 0 rfl)); clear hb)
      | (go_at_call 17; refine (rshort_good x HX.out w1 (HK.out.1.below B1.out HK.out.1.lt)).mono ?_; rintro e w2 ⟨v2, rfl, hs, hb⟩; obtain ⟨A2, c2, hp⟩ : ∃ A c, v2 = .slice A 8 c := (by obtain ⟨a, c, e, _⟩ := hs; rw [shortW_len] at e; exact ⟨a, c, e⟩); subst hp; have V2 := Lib.hid ((V1.out.on hb).new hs); have B2 := Lib.hid (B1.out.trans (hb.mono B1.out.size)); clear hs hb)
      | (go_at_call 16; refine (short_good x HX.out w HK.out.2).mono ?_; rintro e w1 ⟨v1, rfl, hs, hb⟩; obtain ⟨A1, c1, hp⟩ : ∃ A c, v1 = .slice A 8 c := (by obtain ⟨a, c, e, _⟩ := hs; rw [shortW_len] at e; exact ⟨a, c, e⟩); subst hp; have V1 := Lib.hid (VW.nil.new hs); have B1 := Lib.hid hb; clear hs hb))
    go_ret
    exact ⟨rfl, B3.out⟩
  · have HX : Hid (elemP x = false) := Lib.hid (by simpa using hx)
    clear hx
    go_enter Tryd.func6, Tryd.ntmps6
    go_wp2_with (first
      | (go_at_call 7; refine (awakeC_any w HK.out.2).mono ?_; rintro e w1 ⟨rfl, hb⟩; have B1 := Lib.hid hb; have s1 := str_run (bs_nil w1 (fun _ => True)); clear hb)
      | (go_at_call 17; refine (rshort_bad x HX.out w).mono ?_; rintro e w' ⟨rfl, hw'⟩; rw [hw']; clear hw' w')
      | (go_at_call 16; refine (short_bad x HX.out w).mono ?_; rintro e w' ⟨rfl, hw'⟩; rw [hw']; clear hw' w'))
    go_ret
    exact ⟨rfl, B1.out⟩
end Go.Proofs.YtnogcnmoeekcpaaDoor
