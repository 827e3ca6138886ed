/- Seal and Open of both sides, whole. -/
import Derived.Test.YtmpcjaoemfnjcaaShare
import Derived.Test.YtmpcjaoemfnjcaaSeal2
import Derived.Test.YtmpcjaoemfnjcaaOpen2
import Derived.Test.YtmpcjaoemfnjcaaRefSeal
import Derived.Test.YtmpcjaoemfnjcaaRefOpen
namespace Go.Proofs.Ytmpcjaoemfnjcaa
open Go.RowKit

def sealR (k iv b : List UInt8) : List UInt8 := if argE k iv b = 0 then sealO k iv b else []
def openR (k iv b : List UInt8) : List UInt8 := if argE k iv b = 0 then openO k iv b else []
theorem argE_parts {k iv b : List UInt8} (h : argE k iv b = 0) : k.length = 16 ∧ iv.length = 16 ∧ b.length = 16 * (b.length / 16) := by
  unfold argE at h
  by_cases h1 : k.length = 16 ∧ iv.length = 16
  · rw [if_pos h1] at h
    by_cases h2 : b.length % 16 = 0
    · exact ⟨h1.1, h1.2, by omega⟩
    · rw [if_neg h2] at h; cases h
  · rw [if_neg h1] at h; cases h
set_option maxHeartbeats 400000 in
theorem seal_bad (vk vi vb : Value) (k iv b : List UInt8) (h : ¬ argE k iv b = 0) (w : World) (hvk : Bs w w.heap.size vk k) (hvi : Bs w w.heap.size vi iv) (hvb : Bs w w.heap.size vb b) :
    Calls Try.prog 18 #[vk, vi, vb] w fun e w' => e = .returned (.tuple #[.slice none 0 0, .int .i64 (argE k iv b)]) ∧ Below w.heap.size w w' := by
  obtain ⟨A1, n1, c1, rfl⟩ := hvk.form
  obtain ⟨A2, n2, c2, rfl⟩ := hvi.form
  obtain ⟨A3, n3, c3, rfl⟩ := hvb.form
  have HA := fun w => arguments_any A1 A2 A3 n1 n2 n3 c1 c2 c3 k iv b (Bs.lenEq hvk) (Bs.lenEq hvi) (Bs.lenEq hvb) w
  have HA := Lib.hid HA
  have t1 : (argE k iv b != 0) = true := by simpa using h
  clear h hvk hvi hvb
  go_enter Try.func18, Try.ntmps18
  go_wp2_with fail
  refine (HA.out _).mono ?_
  rintro e w1 ⟨rfl, rfl⟩
  go_wp2
  go_ret2
  exact ⟨rfl, (Below.refl _ _).alloc (Nat.le_refl _) _⟩
set_option maxHeartbeats 400000 in
theorem open_bad (vk vi vb : Value) (k iv b : List UInt8) (h : ¬ argE k iv b = 0) (w : World) (hvk : Bs w w.heap.size vk k) (hvi : Bs w w.heap.size vi iv) (hvb : Bs w w.heap.size vb b) :
    Calls Try.prog 20 #[vk, vi, vb] w fun e w' => e = .returned (.tuple #[.slice none 0 0, .int .i64 (argE k iv b)]) ∧ Below w.heap.size w w' := by
  obtain ⟨A1, n1, c1, rfl⟩ := hvk.form
  obtain ⟨A2, n2, c2, rfl⟩ := hvi.form
  obtain ⟨A3, n3, c3, rfl⟩ := hvb.form
  have HA := fun w => arguments_any A1 A2 A3 n1 n2 n3 c1 c2 c3 k iv b (Bs.lenEq hvk) (Bs.lenEq hvi) (Bs.lenEq hvb) w
  have HA := Lib.hid HA
  have t1 : (argE k iv b != 0) = true := by simpa using h
  clear h hvk hvi hvb
  go_enter Try.func20, Try.ntmps20
  go_wp2_with fail
  refine (HA.out _).mono ?_
  rintro e w1 ⟨rfl, rfl⟩
  go_wp2
  go_ret2
  exact ⟨rfl, (Below.refl _ _).alloc (Nat.le_refl _) _⟩
set_option maxHeartbeats 400000 in
theorem rseal_bad (vk vi vb : Value) (k iv b : List UInt8) (h : ¬ argE k iv b = 0) (w : World) (hvk : Bs w w.heap.size vk k) (hvi : Bs w w.heap.size vi iv) (hvb : Bs w w.heap.size vb b) :
    Calls Try.prog 19 #[vk, vi, vb] w fun e w' => e = .returned (.tuple #[.slice none 0 0, .int .i64 (argE k iv b)]) ∧ Below w.heap.size w w' := by
  obtain ⟨A1, n1, c1, rfl⟩ := hvk.form
  obtain ⟨A2, n2, c2, rfl⟩ := hvi.form
  obtain ⟨A3, n3, c3, rfl⟩ := hvb.form
  have E : Hid (argE k iv b = if n1 = 16 ∧ n2 = 16 then (if n3 % 16 = 0 then 0 else 2) else 14) := by rw [Bs.lenEq hvk, Bs.lenEq hvi, Bs.lenEq hvb]; rfl
  clear hvk hvi hvb
  by_cases a : n1 = 16
  · have a' : ((n1 : Int) != 16) = false := by simp; omega
    by_cases b' : n2 = 16
    · have b'' : ((n2 : Int) != 16) = false := by simp; omega
      by_cases d : n3 % 16 = 0
      · exact absurd (by have := E.out; rwa [if_pos ⟨a, b'⟩, if_pos d] at this) h
      · have d' : ((n3 : Int) % 16 != 0) = true := by simp; omega
        have E2 : Hid (argE k iv b = 2) := by have := E.out; rwa [if_pos ⟨a, b'⟩, if_neg d] at this
        clear a b' d E h
        go_enter Try.func19, Try.ntmps19
        go_wp2
        go_ret2
        exact ⟨by rw [E2.out]; rfl, Below.refl _ _⟩
    · have b'' : ((n2 : Int) != 16) = true := by simp; omega
      have E2 : Hid (argE k iv b = 14) := by have := E.out; rwa [if_neg (fun h => b' h.2)] at this
      clear a b' E h
      go_enter Try.func19, Try.ntmps19
      go_wp2
      go_ret2
      exact ⟨by rw [E2.out]; rfl, Below.refl _ _⟩
  · have a' : ((n1 : Int) != 16) = true := by simp; omega
    have E2 : Hid (argE k iv b = 14) := by have := E.out; rwa [if_neg (fun h => a h.1)] at this
    clear a E h
    go_enter Try.func19, Try.ntmps19
    go_wp2
    go_ret2
    exact ⟨by rw [E2.out]; rfl, Below.refl _ _⟩
set_option maxHeartbeats 400000 in
theorem ropen_bad (vk vi vb : Value) (k iv b : List UInt8) (h : ¬ argE k iv b = 0) (w : World) (hvk : Bs w w.heap.size vk k) (hvi : Bs w w.heap.size vi iv) (hvb : Bs w w.heap.size vb b) :
    Calls Try.prog 21 #[vk, vi, vb] w fun e w' => e = .returned (.tuple #[.slice none 0 0, .int .i64 (argE k iv b)]) ∧ Below w.heap.size w w' := by
  obtain ⟨A1, n1, c1, rfl⟩ := hvk.form
  obtain ⟨A2, n2, c2, rfl⟩ := hvi.form
  obtain ⟨A3, n3, c3, rfl⟩ := hvb.form
  have E : Hid (argE k iv b = if n1 = 16 ∧ n2 = 16 then (if n3 % 16 = 0 then 0 else 2) else 14) := by rw [Bs.lenEq hvk, Bs.lenEq hvi, Bs.lenEq hvb]; rfl
  clear hvk hvi hvb
  by_cases a : n1 = 16
  · have a' : ((n1 : Int) != 16) = false := by simp; omega
    by_cases b' : n2 = 16
    · have b'' : ((n2 : Int) != 16) = false := by simp; omega
      by_cases d : n3 % 16 = 0
      · exact absurd (by have := E.out; rwa [if_pos ⟨a, b'⟩, if_pos d] at this) h
      · have d' : ((n3 : Int) % 16 != 0) = true := by simp; omega
        have E2 : Hid (argE k iv b = 2) := by have := E.out; rwa [if_pos ⟨a, b'⟩, if_neg d] at this
        clear a b' d E h
        go_enter Try.func21, Try.ntmps21
        go_wp2
        go_ret2
        exact ⟨by rw [E2.out]; rfl, Below.refl _ _⟩
    · have b'' : ((n2 : Int) != 16) = true := by simp; omega
      have E2 : Hid (argE k iv b = 14) := by have := E.out; rwa [if_neg (fun h => b' h.2)] at this
      clear a b' E h
      go_enter Try.func21, Try.ntmps21
      go_wp2
      go_ret2
      exact ⟨by rw [E2.out]; rfl, Below.refl _ _⟩
  · have a' : ((n1 : Int) != 16) = true := by simp; omega
    have E2 : Hid (argE k iv b = 14) := by have := E.out; rwa [if_neg (fun h => a h.1)] at this
    clear a E h
    go_enter Try.func21, Try.ntmps21
    go_wp2
    go_ret2
    exact ⟨by rw [E2.out]; rfl, Below.refl _ _⟩
theorem sealX (vk vi vb : Value) (k iv b : List UInt8) (w : World) (hvk : Bs w w.heap.size vk k) (hvi : Bs w w.heap.size vi iv) (hvb : Bs w w.heap.size vb b) :
    Calls Try.prog 18 #[vk, vi, vb] w (BytesErr w (sealR k iv b) (argE k iv b)) := by
  unfold sealR
  by_cases h : argE k iv b = 0
  · obtain ⟨h1, h2, h3⟩ := argE_parts h
    rw [if_pos h, h]
    exact (seal_good vk vi vb k iv b _ h1 h2 h3 w hvk hvi hvb).mono fun _ _ ⟨v, e1, e2, e3⟩ => ⟨v, e1, e2.bs, e3⟩
  · rw [if_neg h]
    refine (seal_bad vk vi vb k iv b h w hvk hvi hvb).mono ?_
    rintro e w' ⟨rfl, hb⟩
    exact ⟨_, rfl, Bs.nil _ _, hb⟩
theorem openX (vk vi vb : Value) (k iv b : List UInt8) (w : World) (hvk : Bs w w.heap.size vk k) (hvi : Bs w w.heap.size vi iv) (hvb : Bs w w.heap.size vb b) :
    Calls Try.prog 20 #[vk, vi, vb] w (BytesErr w (openR k iv b) (argE k iv b)) := by
  unfold openR
  by_cases h : argE k iv b = 0
  · obtain ⟨h1, h2, h3⟩ := argE_parts h
    rw [if_pos h, h]
    exact (open_good vk vi vb k iv b _ h1 h2 h3 w hvk hvi hvb).mono fun _ _ ⟨v, e1, e2, e3⟩ => ⟨v, e1, e2.bs, e3⟩
  · rw [if_neg h]
    refine (open_bad vk vi vb k iv b h w hvk hvi hvb).mono ?_
    rintro e w' ⟨rfl, hb⟩
    exact ⟨_, rfl, Bs.nil _ _, hb⟩
theorem rsealX (vk vi vb : Value) (k iv b : List UInt8) (w : World) (hvk : Bs w w.heap.size vk k) (hvi : Bs w w.heap.size vi iv) (hvb : Bs w w.heap.size vb b) :
    Calls Try.prog 19 #[vk, vi, vb] w (BytesErr w (sealR k iv b) (argE k iv b)) := by
  unfold sealR
  by_cases h : argE k iv b = 0
  · obtain ⟨h1, h2, h3⟩ := argE_parts h
    rw [if_pos h, h]
    exact (refSeal_good vk vi vb k iv b _ h1 h2 h3 w hvk hvi hvb).mono fun _ _ ⟨v, e1, e2, e3⟩ => ⟨v, e1, e2.bs, e3⟩
  · rw [if_neg h]
    refine (rseal_bad vk vi vb k iv b h w hvk hvi hvb).mono ?_
    rintro e w' ⟨rfl, hb⟩
    exact ⟨_, rfl, Bs.nil _ _, hb⟩
theorem ropenX (vk vi vb : Value) (k iv b : List UInt8) (w : World) (hvk : Bs w w.heap.size vk k) (hvi : Bs w w.heap.size vi iv) (hvb : Bs w w.heap.size vb b) :
    Calls Try.prog 21 #[vk, vi, vb] w (BytesErr w (openR k iv b) (argE k iv b)) := by
  unfold openR
  by_cases h : argE k iv b = 0
  · obtain ⟨h1, h2, h3⟩ := argE_parts h
    rw [if_pos h, h]
    exact (refOpen_good vk vi vb k iv b _ h1 h2 h3 w hvk hvi hvb).mono fun _ _ ⟨v, e1, e2, e3⟩ => ⟨v, e1, e2.bs, e3⟩
  · rw [if_neg h]
    refine (ropen_bad vk vi vb k iv b h w hvk hvi hvb).mono ?_
    rintro e w' ⟨rfl, hb⟩
    exact ⟨_, rfl, Bs.nil _ _, hb⟩
end Go.Proofs.Ytmpcjaoemfnjcaa
