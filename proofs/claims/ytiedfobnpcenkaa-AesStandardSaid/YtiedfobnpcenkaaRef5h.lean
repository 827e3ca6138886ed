/- The walks of the reference's Encrypt, Decrypt and Expand. -/
import Derived.Test.YtiedfobnpcenkaaRef5g
namespace Go.Proofs.Ytiedfobnpcenkaa
open Go.RowKit

set_option maxHeartbeats 400000 in
theorem refEncrypt_bad (vk v : Value) (k l : List UInt8) (h : ¬ (k.length = 16 ∧ l.length = 16)) (w : World) (hk : Bs w w.heap.size vk k) (hv : Bs w w.heap.size v l) :
    Calls Try.prog 10 #[vk, v] w fun e w' => e = .returned (.tuple #[.slice none 0 0, .int .i64 2]) ∧ w' = w := by
  obtain ⟨ak, ck, rfl, hlck, hck, hk3, hcellk⟩ := hk
  obtain ⟨a, c, rfl, hlc, hc, h3, hcell⟩ := hv
  clear hcellk hcell
  by_cases h1 : k.length = 16
  · have h2 : ¬ l.length = 16 := fun e => h ⟨h1, e⟩
    have e1 : ((k.length : Int) != 16) = false := by simp [h1]
    have e2 : ((l.length : Int) != 16) = true := by simp; omega
    clear h h1 h2
    go_enter Try.func10, Try.ntmps10
    go_wp2
    go_ret2
    exact ⟨rfl, rfl⟩
  · have e1 : ((k.length : Int) != 16) = true := by simp; omega
    clear h h1
    go_enter Try.func10, Try.ntmps10
    go_wp2
    go_ret2
    exact ⟨rfl, rfl⟩

set_option maxHeartbeats 400000 in
theorem refEncrypt_good (vk v : Value) (k l : List UInt8) (h1 : k.length = 16) (h2 : l.length = 16) (w : World) (hk : Bs w w.heap.size vk k) (hv : Bs w w.heap.size v l) :
    Calls Try.prog 10 #[vk, v] w fun e w' => ∃ v', e = .returned (.tuple #[v', .int .i64 0]) ∧ Bs w' w'.heap.size v' (bList 16 (rEncF (gb k) (gb l))) ∧ Below w.heap.size w w' := by
  have hk0 := hk
  have hv0 := hv
  obtain ⟨ak, ck, hke, hlck, hck, hk3, hcellk⟩ := hk
  obtain ⟨a, c, hve, hlc, hc, h3, hcell⟩ := hv
  rw [h1] at hke
  rw [h2] at hve
  subst hke hve
  have H1 := Lib.hid h1; have H2 := Lib.hid h2; have HK := Lib.hid hk0; have HV := Lib.hid hv0
  clear hcellk hcell h1 h2 hk0 hv0 hlck hlc hk3 h3
  go_enter Try.func10, Try.ntmps10
  go_wp2_with fail
  refine (refReady_any _ k H1.out _ HK.out).mono ?_
  rintro e w1 ⟨p, rfl, hp, hb1⟩
  go_wp2_with fail
  refine (refEncrypt_any _ _ _ l H2.out _ hp ((HV.out.below hb1).mono hb1.size)).mono ?_
  rintro e w2 ⟨v', rfl, hv', hb2⟩
  go_wp2
  go_ret2
  exact ⟨v', rfl, hv'.bs, hb1.trans (hb2.mono hb1.size)⟩

set_option maxHeartbeats 400000 in
theorem refDecrypt_bad (vk v : Value) (k l : List UInt8) (h : ¬ (k.length = 16 ∧ l.length = 16)) (w : World) (hk : Bs w w.heap.size vk k) (hv : Bs w w.heap.size v l) :
    Calls Try.prog 15 #[vk, v] w fun e w' => e = .returned (.tuple #[.slice none 0 0, .int .i64 2]) ∧ w' = w := by
  obtain ⟨ak, ck, rfl, hlck, hck, hk3, hcellk⟩ := hk
  obtain ⟨a, c, rfl, hlc, hc, h3, hcell⟩ := hv
  clear hcellk hcell
  by_cases h1 : k.length = 16
  · have h2 : ¬ l.length = 16 := fun e => h ⟨h1, e⟩
    have e1 : ((k.length : Int) != 16) = false := by simp [h1]
    have e2 : ((l.length : Int) != 16) = true := by simp; omega
    clear h h1 h2
    go_enter Try.func15, Try.ntmps15
    go_wp2
    go_ret2
    exact ⟨rfl, rfl⟩
  · have e1 : ((k.length : Int) != 16) = true := by simp; omega
    clear h h1
    go_enter Try.func15, Try.ntmps15
    go_wp2
    go_ret2
    exact ⟨rfl, rfl⟩

set_option maxHeartbeats 400000 in
theorem refDecrypt_good (vk v : Value) (k l : List UInt8) (h1 : k.length = 16) (h2 : l.length = 16) (w : World) (hk : Bs w w.heap.size vk k) (hv : Bs w w.heap.size v l) :
    Calls Try.prog 15 #[vk, v] w fun e w' => ∃ v', e = .returned (.tuple #[v', .int .i64 0]) ∧ Bs w' w'.heap.size v' (bList 16 (rDecF (gb k) (gb l))) ∧ Below w.heap.size w w' := by
  have hk0 := hk
  have hv0 := hv
  obtain ⟨ak, ck, hke, hlck, hck, hk3, hcellk⟩ := hk
  obtain ⟨a, c, hve, hlc, hc, h3, hcell⟩ := hv
  rw [h1] at hke
  rw [h2] at hve
  subst hke hve
  have H1 := Lib.hid h1; have H2 := Lib.hid h2; have HK := Lib.hid hk0; have HV := Lib.hid hv0
  clear hcellk hcell h1 h2 hk0 hv0 hlck hlc hk3 h3
  go_enter Try.func15, Try.ntmps15
  go_wp2_with fail
  refine (refReady_any _ k H1.out _ HK.out).mono ?_
  rintro e w1 ⟨p, rfl, hp, hb1⟩
  go_wp2_with fail
  refine (refDecrypt_any _ _ _ l H2.out _ hp ((HV.out.below hb1).mono hb1.size)).mono ?_
  rintro e w2 ⟨v', rfl, hv', hb2⟩
  go_wp2
  go_ret2
  exact ⟨v', rfl, hv'.bs, hb1.trans (hb2.mono hb1.size)⟩

set_option maxHeartbeats 400000 in
theorem refExpandT_bad (v : Value) (l : List UInt8) (h : ¬ l.length = 16) (w : World) (hv : Bs w w.heap.size v l) :
    Calls Try.prog 22 #[v] w fun e w' => e = .returned (.tuple #[.slice none 0 0, .int .i64 2]) ∧ w' = w := by
  obtain ⟨a, c, rfl, hlc, hc, h3, hcell⟩ := hv
  clear hcell
  have e1 : ((l.length : Int) != 16) = true := by simp; omega
  clear h
  go_enter Try.func22, Try.ntmps22
  go_wp2
  go_ret2
  exact ⟨rfl, rfl⟩
set_option maxRecDepth 100000 in
set_option maxHeartbeats 1000000 in
theorem refExpandT_good (v : Value) (l : List UInt8) (hl : l.length = 16) (w : World) (hv : Bs w w.heap.size v l) :
    Calls Try.prog 22 #[v] w fun e w' => ∃ v', e = .returned (.tuple #[v', .int .i64 0]) ∧ LBs w' w'.heap.size v' (rKeys (gb l)) ∧ Below w.heap.size w w' := by
  have hv0 := hv
  obtain ⟨a, c, hve, hlc, hc, h3, hcell⟩ := hv
  rw [hl] at hve
  subst hve
  have Hl := Lib.hid hl; have HV := Lib.hid hv0
  have hz : ∀ w, (zeroValue 56).run Try.prog w = .ok (.agg (bArr 256 fun _ => 0)) w := zeroBox
  have hst := store_new (P := Try.prog) (T := 56) (n := 256) rfl rTab
  have hsz := bArr_size 256 (fun _ => 0)
  clear hv0 hcell hl hlc h3
  go_enter Try.func22, Try.ntmps22
  go_wp2_with fail
  refine (table_any _).mono ?_
  rintro e w1 ⟨rfl, hb1⟩
  have hrow : (w1.alloc (.cells (bArr 256 rTab) 56)).rowIs w1.heap.size 56 256 (fun j => U8 (rTab j)) := rowIs_bArr _ _ _ _
  have hT : ArrB (w1.alloc (.cells (bArr 256 rTab) 56)) w1.heap.size 0 256 rTab := (ArrB.of_row (off := 0) hrow (m := 256) (by omega)).congr fun j _ => by rw [Nat.zero_add]
  have hb2 := hb1.alloc hb1.size (.cells (bArr 256 rTab) 56)
  have HT := Lib.hid hT; have Hb2 := Lib.hid hb2; have Hlt := Lib.hid hrow.lt
  clear hrow hT hb2
  go_wp2_with fail
  refine (refExpand_any w1.heap.size rTab (.slice a 16 c) l Hl.out _ HT.out Hlt.out ((HV.out.below Hb2.out).mono Hb2.out.size)).mono ?_
  rintro e w3 ⟨v3, rfl, hv3, hb3⟩
  go_wp2
  go_ret2
  exact ⟨v3, rfl, hv3.lbs, Hb2.out.trans (hb3.mono Hb2.out.size)⟩
end Go.Proofs.Ytiedfobnpcenkaa
