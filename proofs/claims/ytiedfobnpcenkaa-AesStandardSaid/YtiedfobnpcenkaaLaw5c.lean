/- The walks of the statements AesEncrypts, AesDecrypts and AesReturns. -/
import Derived.Test.YtiedfobnpcenkaaLaw5b
import Derived.Test.YtiedfobnpcenkaaRef5h

namespace Go.Proofs.Ytiedfobnpcenkaa
open Go.RowKit

/-- What Encrypt and Decrypt return for any bytes. -/
def encO (k l : List UInt8) : List UInt8 := if k.length = 16 ∧ l.length = 16 then bList 16 (encF (gb k) (gb l)) else []
def decO (k l : List UInt8) : List UInt8 := if k.length = 16 ∧ l.length = 16 then bList 16 (decF (gb k) (gb l)) else []
def size16E (k l : List UInt8) : Int := if k.length = 16 ∧ l.length = 16 then 0 else 2
theorem size16E_ok {k l : List UInt8} (h1 : k.length = 16) (h2 : l.length = 16) : size16E k l = 0 := if_pos ⟨h1, h2⟩
theorem encO_len {k l : List UInt8} (h1 : k.length = 16) (h2 : l.length = 16) : (encO k l).length = 16 := by unfold encO; rw [if_pos ⟨h1, h2⟩, bList_len]
theorem decO_len {k l : List UInt8} (h1 : k.length = 16) (h2 : l.length = 16) : (decO k l).length = 16 := by unfold decO; rw [if_pos ⟨h1, h2⟩, bList_len]
theorem decO_encO {k l : List UInt8} (h1 : k.length = 16) (h2 : l.length = 16) : decO k (encO k l) = l := by
  have h3 := encO_len h1 h2
  unfold decO
  rw [if_pos ⟨h1, h3⟩]
  unfold encO
  rw [if_pos ⟨h1, h2⟩]
  exact dec_enc_list k l h2
theorem encO_decO {k l : List UInt8} (h1 : k.length = 16) (h2 : l.length = 16) : encO k (decO k l) = l := by
  have h3 := decO_len h1 h2
  unfold encO
  rw [if_pos ⟨h1, h3⟩]
  unfold decO
  rw [if_pos ⟨h1, h2⟩]
  exact enc_dec_list k l h2
/-- A call that returns bytes and an error number. -/
def BytesErr (w : World) (l : List UInt8) (n : Int) (e : Ending) (w' : World) : Prop := ∃ v', e = .returned (.tuple #[v', .int .i64 n]) ∧ Bs w' w'.heap.size v' l ∧ Below w.heap.size w w'
theorem encX (vk v : Value) (k l : List UInt8) (w : World) (hk : Bs w w.heap.size vk k) (hv : Bs w w.heap.size v l) :
    Calls Try.prog 9 #[vk, v] w (BytesErr w (encO k l) (size16E k l)) := by
  unfold encO size16E
  by_cases h : k.length = 16 ∧ l.length = 16
  · rw [if_pos h, if_pos h]; exact encrypt_good vk v k l h.1 h.2 w hk hv
  · rw [if_neg h, if_neg h]
    refine (encrypt_bad vk v k l h w hk hv).mono ?_
    rintro e w' ⟨rfl, rfl⟩
    exact ⟨_, rfl, Bs.nil _ _, Below.refl _ _⟩
theorem decX (vk v : Value) (k l : List UInt8) (w : World) (hk : Bs w w.heap.size vk k) (hv : Bs w w.heap.size v l) :
    Calls Try.prog 14 #[vk, v] w (BytesErr w (decO k l) (size16E k l)) := by
  unfold decO size16E
  by_cases h : k.length = 16 ∧ l.length = 16
  · rw [if_pos h, if_pos h]; exact decrypt_good vk v k l h.1 h.2 w hk hv
  · rw [if_neg h, if_neg h]
    refine (decrypt_bad vk v k l h w hk hv).mono ?_
    rintro e w' ⟨rfl, rfl⟩
    exact ⟨_, rfl, Bs.nil _ _, Below.refl _ _⟩
theorem rencX (vk v : Value) (k l : List UInt8) (w : World) (hk : Bs w w.heap.size vk k) (hv : Bs w w.heap.size v l) :
    Calls Try.prog 10 #[vk, v] w (BytesErr w (encO k l) (size16E k l)) := by
  unfold encO size16E
  by_cases h : k.length = 16 ∧ l.length = 16
  · rw [if_pos h, if_pos h, encF_eq]; exact refEncrypt_good vk v k l h.1 h.2 w hk hv
  · rw [if_neg h, if_neg h]
    refine (refEncrypt_bad vk v k l h w hk hv).mono ?_
    rintro e w' ⟨rfl, rfl⟩
    exact ⟨_, rfl, Bs.nil _ _, Below.refl _ _⟩
theorem rdecX (vk v : Value) (k l : List UInt8) (w : World) (hk : Bs w w.heap.size vk k) (hv : Bs w w.heap.size v l) :
    Calls Try.prog 15 #[vk, v] w (BytesErr w (decO k l) (size16E k l)) := by
  unfold decO size16E
  by_cases h : k.length = 16 ∧ l.length = 16
  · rw [if_pos h, if_pos h, decF_eq]; exact refDecrypt_good vk v k l h.1 h.2 w hk hv
  · rw [if_neg h, if_neg h]
    refine (refDecrypt_bad vk v k l h w hk hv).mono ?_
    rintro e w' ⟨rfl, rfl⟩
    exact ⟨_, rfl, Bs.nil _ _, Below.refl _ _⟩
/-- A call that returns bytes. -/
def BytesOnly (w : World) (l : List UInt8) (e : Ending) (w' : World) : Prop := ∃ v', e = .returned v' ∧ Bs w' w'.heap.size v' l ∧ Below w.heap.size w w'
theorem sixX (v : Value) (l : List UInt8) (hlen : l.length ≤ 140737488351232) (w : World) (hv : Bs w w.heap.size v l) :
    Calls Try.prog 11 #[v] w (BytesOnly w (six l)) := (sixteen_any v l hlen w hv).mono fun _ _ ⟨v', h1, h2, h3⟩ => ⟨v', h1, h2.bs, h3⟩
theorem same_refl (va vb : Value) (l : List UInt8) (w : World) (ha : Bs w w.heap.size va l) (hb : Bs w w.heap.size vb l) :
    Calls Try.prog 13 #[va, vb] w fun e w' => e = .returned (.bool true) ∧ Below w.heap.size w w' := by
  refine (same_any va vb l l _ _ w ha hb).mono ?_
  rintro e w' ⟨rfl, n, rfl⟩
  exact ⟨by simp, below_drewN (Below.refl _ _) n⟩
theorem encOk (vk v : Value) (k l : List UInt8) (h1 : k.length = 16) (h2 : l.length = 16) (w : World) (hk : Bs w w.heap.size vk k) (hv : Bs w w.heap.size v l) :
    Calls Try.prog 9 #[vk, v] w (BytesErr w (encO k l) 0) := by
  have := encX vk v k l w hk hv
  rwa [size16E_ok h1 h2] at this
theorem decOk (vk v : Value) (k l : List UInt8) (h1 : k.length = 16) (h2 : l.length = 16) (w : World) (hk : Bs w w.heap.size vk k) (hv : Bs w w.heap.size v l) :
    Calls Try.prog 14 #[vk, v] w (BytesErr w (decO k l) 0) := by
  have := decX vk v k l w hk hv
  rwa [size16E_ok h1 h2] at this
attribute [irreducible] encO decO size16E
/-! The walks, printed by gen/law5c.py. -/
set_option maxRecDepth 100000 in
set_option maxHeartbeats 400000 in
theorem aesEncrypts_law (vk : Value) (k : List UInt8) (nk : k.length ≤ 140737488351232) (vb : Value) (b : List UInt8) (nb : b.length ≤ 140737488351232) (w : World) (hk : Bs w w.heap.size vk k) (hb : Bs w w.heap.size vb b) :
    Calls Try.prog 3 #[vk, vb] w fun e w' => e = .returned (.bool true) ∧ Below w.heap.size w w' := by
  have Nk := Lib.hid nk; have Nb := Lib.hid nb; clear nk nb
  go_enter Try.func3, Try.ntmps3
  go_wp2_with fail
  refine (encX vk vb k b _ hk hb).mono ?_
  rintro e w1 ⟨x, rfl, hx, hB⟩
  have hk_1 := hk.lift hB; have hb_1 := hb.lift hB
  clear hk hb
  have hT_1 := hB; clear hB
  have hx_1 := hx; clear hx
  go_wp2_with fail
  refine (rencX vk vb k b _ hk_1 hb_1).mono ?_
  rintro e w2 ⟨y, rfl, hy, hB⟩
  have hk_2 := hk_1.lift hB; have hb_2 := hb_1.lift hB; have hx_2 := hx_1.lift hB
  clear hk_1 hb_1 hx_1
  have hT_2 := hT_1.trans (hB.mono hT_1.size); clear hT_1 hB
  have hy_2 := hy; clear hy
  go_wp2_with fail
  refine (sixX vk k Nk.out _ hk_2).mono ?_
  rintro e w3 ⟨p, rfl, hp, hB⟩
  have hk_3 := hk_2.lift hB; have hb_3 := hb_2.lift hB; have hx_3 := hx_2.lift hB; have hy_3 := hy_2.lift hB
  clear hk_2 hb_2 hx_2 hy_2
  have hT_3 := hT_2.trans (hB.mono hT_2.size); clear hT_2 hB
  have hp_3 := hp; clear hp
  go_wp2_with fail
  refine (sixX vb b Nb.out _ hb_3).mono ?_
  rintro e w4 ⟨q, rfl, hq, hB⟩
  have hk_4 := hk_3.lift hB; have hb_4 := hb_3.lift hB; have hx_4 := hx_3.lift hB; have hy_4 := hy_3.lift hB; have hp_4 := hp_3.lift hB
  clear hk_3 hb_3 hx_3 hy_3 hp_3
  have hT_4 := hT_3.trans (hB.mono hT_3.size); clear hT_3 hB
  have hq_4 := hq; clear hq
  go_wp2_with fail
  refine (encX p q (six k) (six b) _ hp_4 hq_4).mono ?_
  rintro e w5 ⟨z, rfl, hz, hB⟩
  have hk_5 := hk_4.lift hB; have hb_5 := hb_4.lift hB; have hx_5 := hx_4.lift hB; have hy_5 := hy_4.lift hB
  clear hk_4 hb_4 hx_4 hy_4 hp_4 hq_4
  have hT_5 := hT_4.trans (hB.mono hT_4.size); clear hT_4 hB
  have hz_5 := hz; clear hz
  go_wp2_with fail
  refine (sixX vk k Nk.out _ hk_5).mono ?_
  rintro e w6 ⟨p2, rfl, hp, hB⟩
  have hb_6 := hb_5.lift hB; have hx_6 := hx_5.lift hB; have hy_6 := hy_5.lift hB; have hz_6 := hz_5.lift hB
  clear hk_5 hb_5 hx_5 hy_5 hz_5
  have hT_6 := hT_5.trans (hB.mono hT_5.size); clear hT_5 hB
  have hp_6 := hp; clear hp
  go_wp2_with fail
  refine (sixX vb b Nb.out _ hb_6).mono ?_
  rintro e w7 ⟨q2, rfl, hq, hB⟩
  have hx_7 := hx_6.lift hB; have hy_7 := hy_6.lift hB; have hz_7 := hz_6.lift hB; have hp_7 := hp_6.lift hB
  clear hb_6 hx_6 hy_6 hz_6 hp_6
  have hT_7 := hT_6.trans (hB.mono hT_6.size); clear hT_6 hB
  have hq_7 := hq; clear hq
  go_wp2_with fail
  refine (rencX p2 q2 (six k) (six b) _ hp_7 hq_7).mono ?_
  rintro e w8 ⟨v, rfl, hv, hB⟩
  have hx_8 := hx_7.lift hB; have hy_8 := hy_7.lift hB; have hz_8 := hz_7.lift hB
  clear hx_7 hy_7 hz_7 hp_7 hq_7
  have hT_8 := hT_7.trans (hB.mono hT_7.size); clear hT_7 hB
  have hv_8 := hv; clear hv
  go_wp2_with fail
  refine (awake_any _).mono ?_
  rintro e w9 ⟨rfl, hB⟩
  have hx_9 := hx_8.lift hB; have hy_9 := hy_8.lift hB; have hz_9 := hz_8.lift hB; have hv_9 := hv_8.lift hB
  clear hx_8 hy_8 hz_8 hv_8
  have hT_9 := hT_8.trans (hB.mono hT_8.size); clear hT_8 hB
  go_wp2_with fail
  refine (same_refl x y _ _ hx_9 hy_9).mono ?_
  rintro e w10 ⟨rfl, hB⟩
  have hz_10 := hz_9.lift hB; have hv_10 := hv_9.lift hB
  clear hx_9 hy_9 hz_9 hv_9
  have hT_10 := hT_9.trans (hB.mono hT_9.size); clear hT_9 hB
  go_wp2_with fail
  refine (same_refl z v _ _ hz_10 hv_10).mono ?_
  rintro e w11 ⟨rfl, hB⟩
  clear hz_10 hv_10
  have hT_11 := hT_10.trans (hB.mono hT_10.size); clear hT_10 hB
  go_wp2
  go_ret
  exact ⟨rfl, hT_11⟩
set_option maxRecDepth 100000 in
set_option maxHeartbeats 400000 in
theorem aesDecrypts_law (vk : Value) (k : List UInt8) (nk : k.length ≤ 140737488351232) (vb : Value) (b : List UInt8) (nb : b.length ≤ 140737488351232) (w : World) (hk : Bs w w.heap.size vk k) (hb : Bs w w.heap.size vb b) :
    Calls Try.prog 4 #[vk, vb] w fun e w' => e = .returned (.bool true) ∧ Below w.heap.size w w' := by
  have Nk := Lib.hid nk; have Nb := Lib.hid nb; clear nk nb
  go_enter Try.func4, Try.ntmps4
  go_wp2_with fail
  refine (decX vk vb k b _ hk hb).mono ?_
  rintro e w1 ⟨x, rfl, hx, hB⟩
  have hk_1 := hk.lift hB; have hb_1 := hb.lift hB
  clear hk hb
  have hT_1 := hB; clear hB
  have hx_1 := hx; clear hx
  go_wp2_with fail
  refine (rdecX vk vb k b _ hk_1 hb_1).mono ?_
  rintro e w2 ⟨y, rfl, hy, hB⟩
  have hk_2 := hk_1.lift hB; have hb_2 := hb_1.lift hB; have hx_2 := hx_1.lift hB
  clear hk_1 hb_1 hx_1
  have hT_2 := hT_1.trans (hB.mono hT_1.size); clear hT_1 hB
  have hy_2 := hy; clear hy
  go_wp2_with fail
  refine (sixX vk k Nk.out _ hk_2).mono ?_
  rintro e w3 ⟨p, rfl, hp, hB⟩
  have hk_3 := hk_2.lift hB; have hb_3 := hb_2.lift hB; have hx_3 := hx_2.lift hB; have hy_3 := hy_2.lift hB
  clear hk_2 hb_2 hx_2 hy_2
  have hT_3 := hT_2.trans (hB.mono hT_2.size); clear hT_2 hB
  have hp_3 := hp; clear hp
  go_wp2_with fail
  refine (sixX vb b Nb.out _ hb_3).mono ?_
  rintro e w4 ⟨q, rfl, hq, hB⟩
  have hk_4 := hk_3.lift hB; have hb_4 := hb_3.lift hB; have hx_4 := hx_3.lift hB; have hy_4 := hy_3.lift hB; have hp_4 := hp_3.lift hB
  clear hk_3 hb_3 hx_3 hy_3 hp_3
  have hT_4 := hT_3.trans (hB.mono hT_3.size); clear hT_3 hB
  have hq_4 := hq; clear hq
  go_wp2_with fail
  refine (decX p q (six k) (six b) _ hp_4 hq_4).mono ?_
  rintro e w5 ⟨z, rfl, hz, hB⟩
  have hk_5 := hk_4.lift hB; have hb_5 := hb_4.lift hB; have hx_5 := hx_4.lift hB; have hy_5 := hy_4.lift hB
  clear hk_4 hb_4 hx_4 hy_4 hp_4 hq_4
  have hT_5 := hT_4.trans (hB.mono hT_4.size); clear hT_4 hB
  have hz_5 := hz; clear hz
  go_wp2_with fail
  refine (sixX vk k Nk.out _ hk_5).mono ?_
  rintro e w6 ⟨p2, rfl, hp, hB⟩
  have hb_6 := hb_5.lift hB; have hx_6 := hx_5.lift hB; have hy_6 := hy_5.lift hB; have hz_6 := hz_5.lift hB
  clear hk_5 hb_5 hx_5 hy_5 hz_5
  have hT_6 := hT_5.trans (hB.mono hT_5.size); clear hT_5 hB
  have hp_6 := hp; clear hp
  go_wp2_with fail
  refine (sixX vb b Nb.out _ hb_6).mono ?_
  rintro e w7 ⟨q2, rfl, hq, hB⟩
  have hx_7 := hx_6.lift hB; have hy_7 := hy_6.lift hB; have hz_7 := hz_6.lift hB; have hp_7 := hp_6.lift hB
  clear hb_6 hx_6 hy_6 hz_6 hp_6
  have hT_7 := hT_6.trans (hB.mono hT_6.size); clear hT_6 hB
  have hq_7 := hq; clear hq
  go_wp2_with fail
  refine (rdecX p2 q2 (six k) (six b) _ hp_7 hq_7).mono ?_
  rintro e w8 ⟨v, rfl, hv, hB⟩
  have hx_8 := hx_7.lift hB; have hy_8 := hy_7.lift hB; have hz_8 := hz_7.lift hB
  clear hx_7 hy_7 hz_7 hp_7 hq_7
  have hT_8 := hT_7.trans (hB.mono hT_7.size); clear hT_7 hB
  have hv_8 := hv; clear hv
  go_wp2_with fail
  refine (awake_any _).mono ?_
  rintro e w9 ⟨rfl, hB⟩
  have hx_9 := hx_8.lift hB; have hy_9 := hy_8.lift hB; have hz_9 := hz_8.lift hB; have hv_9 := hv_8.lift hB
  clear hx_8 hy_8 hz_8 hv_8
  have hT_9 := hT_8.trans (hB.mono hT_8.size); clear hT_8 hB
  go_wp2_with fail
  refine (same_refl x y _ _ hx_9 hy_9).mono ?_
  rintro e w10 ⟨rfl, hB⟩
  have hz_10 := hz_9.lift hB; have hv_10 := hv_9.lift hB
  clear hx_9 hy_9 hz_9 hv_9
  have hT_10 := hT_9.trans (hB.mono hT_9.size); clear hT_9 hB
  go_wp2_with fail
  refine (same_refl z v _ _ hz_10 hv_10).mono ?_
  rintro e w11 ⟨rfl, hB⟩
  clear hz_10 hv_10
  have hT_11 := hT_10.trans (hB.mono hT_10.size); clear hT_10 hB
  go_wp2
  go_ret
  exact ⟨rfl, hT_11⟩
set_option maxRecDepth 100000 in
set_option maxHeartbeats 400000 in
theorem aesReturns_law (vk : Value) (k : List UInt8) (nk : k.length ≤ 140737488351232) (vb : Value) (b : List UInt8) (nb : b.length ≤ 140737488351232) (w : World) (hk : Bs w w.heap.size vk k) (hb : Bs w w.heap.size vb b) :
    Calls Try.prog 5 #[vk, vb] w fun e w' => e = .returned (.bool true) ∧ Below w.heap.size w w' := by
  have Nk := Lib.hid nk; have Nb := Lib.hid nb; clear nk nb
  go_enter Try.func5, Try.ntmps5
  go_wp2_with fail
  refine (sixX vk k Nk.out _ hk).mono ?_
  rintro e w1 ⟨q, rfl, hq, hB⟩
  have hb_1 := hb.lift hB
  clear hk hb
  have hT_1 := hB; clear hB
  have hq_1 := hq; clear hq
  go_wp2_with fail
  refine (sixX vb b Nb.out _ hb_1).mono ?_
  rintro e w2 ⟨p, rfl, hp, hB⟩
  have hq_2 := hq_1.lift hB
  clear hb_1 hq_1
  have hT_2 := hT_1.trans (hB.mono hT_1.size); clear hT_1 hB
  have hp_2 := hp; clear hp
  go_wp2_with fail
  refine (encOk q p (six k) (six b) (six_len k) (six_len b) _ hq_2 hp_2).mono ?_
  rintro e w3 ⟨x, rfl, hx, hB⟩
  have hq_3 := hq_2.lift hB; have hp_3 := hp_2.lift hB
  clear hq_2 hp_2
  have hT_3 := hT_2.trans (hB.mono hT_2.size); clear hT_2 hB
  have hx_3 := hx; clear hx
  go_wp2_with fail
  refine (decOk q x (six k) (encO (six k) (six b)) (six_len k) (encO_len (six_len k) (six_len b)) _ hq_3 hx_3).mono ?_
  rintro e w4 ⟨y, rfl, hy, hB⟩
  have hq_4 := hq_3.lift hB; have hp_4 := hp_3.lift hB
  clear hq_3 hp_3 hx_3
  have hT_4 := hT_3.trans (hB.mono hT_3.size); clear hT_3 hB
  have hy_4 := hy; clear hy
  go_wp2_with fail
  refine (decOk q p (six k) (six b) (six_len k) (six_len b) _ hq_4 hp_4).mono ?_
  rintro e w5 ⟨z, rfl, hz, hB⟩
  have hq_5 := hq_4.lift hB; have hp_5 := hp_4.lift hB; have hy_5 := hy_4.lift hB
  clear hq_4 hp_4 hy_4
  have hT_5 := hT_4.trans (hB.mono hT_4.size); clear hT_4 hB
  have hz_5 := hz; clear hz
  go_wp2_with fail
  refine (encOk q z (six k) (decO (six k) (six b)) (six_len k) (decO_len (six_len k) (six_len b)) _ hq_5 hz_5).mono ?_
  rintro e w6 ⟨v, rfl, hv, hB⟩
  have hp_6 := hp_5.lift hB; have hy_6 := hy_5.lift hB
  clear hq_5 hp_5 hy_5 hz_5
  have hT_6 := hT_5.trans (hB.mono hT_5.size); clear hT_5 hB
  have hv_6 := hv; clear hv
  go_wp2_with fail
  refine (awake_any _).mono ?_
  rintro e w7 ⟨rfl, hB⟩
  have hp_7 := hp_6.lift hB; have hy_7 := hy_6.lift hB; have hv_7 := hv_6.lift hB
  clear hp_6 hy_6 hv_6
  have hT_7 := hT_6.trans (hB.mono hT_6.size); clear hT_6 hB
  rw [decO_encO (six_len k) (six_len b)] at hy_7
  rw [encO_decO (six_len k) (six_len b)] at hv_7
  go_wp2_with fail
  refine (same_refl y p _ _ hy_7 hp_7).mono ?_
  rintro e w8 ⟨rfl, hB⟩
  have hp_8 := hp_7.lift hB; have hv_8 := hv_7.lift hB
  clear hp_7 hy_7 hv_7
  have hT_8 := hT_7.trans (hB.mono hT_7.size); clear hT_7 hB
  go_wp2_with fail
  refine (same_refl v p _ _ hv_8 hp_8).mono ?_
  rintro e w9 ⟨rfl, hB⟩
  clear hp_8 hv_8
  have hT_9 := hT_8.trans (hB.mono hT_8.size); clear hT_8 hB
  go_wp2
  go_ret
  exact ⟨rfl, hT_9⟩
end Go.Proofs.Ytiedfobnpcenkaa
