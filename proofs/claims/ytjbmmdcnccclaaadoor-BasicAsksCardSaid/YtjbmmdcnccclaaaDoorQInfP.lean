/- Package group: power, Element; the reference's. -/
import Derived.Test.YtjbmmdcnccclaaaDoorBits
import Derived.Test.YtjbmmdcnccclaaaDoorTlv1
import Derived.Laws.BitsLemmas
import Derived.Deep.LoopGhost
import Derived.Deep.DeepMust
import Derived.Lib.Hide
import Derived.Test.YtjbmmdcnccclaaaDoorQMem
import Derived.BigQuiet
import Derived.Deep.Cut
import Derived.Deep.CutRange
import Derived.Deep.DeepCutAuto
import Derived.Deep.QuietTactic
import Derived.Test.YtjbmmdcnccclaaaDoorTree
import Derived.Deep.RegionWith
import Derived.Deep.RegionLaw
import Derived.StillTailTactics
import Derived.Test.YtjbmmdcnccclaaaDoorQParse
namespace Go.Proofs.YtjbmmdcnccclaaaDoor
open Go.RowKit Go.Deep

/-- out times x to the power k, by so many squarings. -/
def gpw : Nat → Nat → Nat → Nat → Nat
  | 0, o, _, _ => o
  | n + 1, o, x, k => gpw n (if k % 2 = 1 then o * x % 2147483579 else o) (x * x % 2147483579) (k / 2)
theorem gpw_odd (n o x k : Nat) (h : k % 2 = 1) : gpw (n + 1) o x k = gpw n (o * x % 2147483579) (x * x % 2147483579) (k / 2) := by simp [gpw, h]
theorem gpw_even (n o x k : Nat) (h : ¬ k % 2 = 1) : gpw (n + 1) o x k = gpw n o (x * x % 2147483579) (k / 2) := by simp [gpw, h]
theorem gpw_zero (n : Nat) : ∀ o x, gpw n o x 0 = o := by
  induction n with
  | zero => intros; rfl
  | succ n ih => intro o x; simp [gpw, ih]
theorem gpw_more (n : Nat) : ∀ m o x k, k < 2 ^ n → n ≤ m → gpw m o x k = gpw n o x k := by
  induction n with
  | zero => intro m o x k hk _; have : k = 0 := by simpa using hk
            subst this; rw [gpw_zero, gpw_zero]
  | succ n ih =>
    intro m o x k hk hm
    obtain ⟨m, rfl⟩ : ∃ j, m = j + 1 := ⟨m - 1, by omega⟩
    exact ih m _ _ _ (by rw [Nat.pow_succ] at hk; omega) (by omega)
theorem gpw_lt (n : Nat) : ∀ o x k, o < 2147483579 → gpw n o x k < 2147483579 := by
  induction n with
  | zero => intro o x k h; exact h
  | succ n ih =>
    intro o x k h
    refine ih _ _ _ ?_
    split
    · exact Nat.mod_lt _ (by decide)
    · exact h
theorem mul_small {a b : Nat} (ha : a < 2147483579) (hb : b < 2147483579) : a * b ≤ 4611685722074649241 := by
  have := Nat.mul_le_mul (Nat.le_of_lt ha) (Nat.le_of_lt hb)
  omega
theorem lt_bitLenAux (f : Nat) : ∀ x, x < 2 ^ f → x < 2 ^ Lib.bitLenAux f x := by
  induction f with
  | zero => intro x h; exact h
  | succ f ih =>
    intro x h
    unfold Lib.bitLenAux
    split
    · subst_vars; decide
    · have := ih (x / 2) (by rw [Nat.pow_succ] at h; omega)
      rw [Nat.add_comm, Nat.pow_succ]
      omega
theorem lt_bitLen (x : Nat) (h : x < 9223372036854775808) : x < 2 ^ Lib.bitLen x := lt_bitLenAux 64 x (by omega)
theorem bitLenAux_le (f : Nat) : ∀ x, Lib.bitLenAux f x ≤ f := by
  induction f with
  | zero => intro x; exact Nat.le_refl _
  | succ f ih => intro x; unfold Lib.bitLenAux; split; omega; have := ih (x / 2); omega
theorem bitLen_le (x : Nat) : Lib.bitLen x ≤ 64 := bitLenAux_le 64 x
theorem bit_of (k i : Nat) (hk : k < 9223372036854775808) : bits BinOp.and IntKind.i64 ((k : Int) / 2 ^ i) 1 = ((k / 2 ^ i % 2 : Nat) : Int) := by
  have hd : (k : Int) / 2 ^ i = ((k / 2 ^ i : Nat) : Int) := by rw [Int.natCast_ediv]; simp
  have hle : k / 2 ^ i ≤ k := Nat.div_le_self _ _
  rw [hd]
  obtain ⟨q, hq⟩ : ∃ q, q = k / 2 ^ i := ⟨_, rfl⟩
  rw [← hq] at hle ⊢
  have h := bits_mask .i64 63 (by decide) (fun n h0 h1 => by simp [IntKind.wrap, IntKind.bits, IntKind.signed]; omega) 1 (by decide) (q : Int) (by omega) (by omega)
  have e : ((2 : Int) ^ 1 - 1) = 1 := by decide
  have e2 : ((2 : Int) ^ 1) = 2 := by decide
  rw [e, e2] at h
  rw [h]
  omega
theorem mulmod {a b : Nat} (ha : a < 2147483579) (hb : b < 2147483579) : (wrap64 ((a : Int) * b)).tmod 2147483579 = ((a * b % 2147483579 : Nat) : Int) := by
  have h := mul_small ha hb
  have e : wrap64 ((a : Int) * b) = ((a * b : Nat) : Int) := by
    rw [Int.natCast_mul]
    have h' : (a : Int) * b ≤ 4611685722074649241 := by rw [← Int.natCast_mul]; omega
    have h0 : (0 : Int) ≤ (a : Int) * b := by rw [← Int.natCast_mul]; omega
    unfold wrap64
    omega
  rw [e, Int.tmod_eq_emod_of_nonneg (by omega)]
  omega
theorem odd_test (K : Nat) : ((K : Int).tmod 2 = 1) = (K % 2 = 1) := by
  rw [Int.tmod_eq_emod_of_nonneg (by omega)]; exact propext ⟨fun h => by omega, fun h => by omega⟩
/-- Which numbers are elements of the group. -/
def elemP (x : Int) : Bool := decide (0 < x ∧ x < 2147483579) && decide (x ≠ 1) && decide (gpw 64 1 x.toNat 1073741789 = 1)
end Go.Proofs.YtjbmmdcnccclaaaDoor
/- Infos: what they are; the check of one. -/
namespace Go.Proofs.YtjbmmdcnccclaaaDoor
open Go.RowKit Go.Deep

/-- An info: protocol, version, parameters, key, number of the key. -/
structure Inf where
  p : Int
  v : Int
  r : Int
  k : Int
  d : Int
  deriving DecidableEq
def Inf.cells (x : Inf) : Array Value := #[.int .i64 x.p, .int .i64 x.v, .int .i64 x.r, .int .i64 x.k, .int .i64 x.d]
/-- The first error of an info. -/
def chkB (p v r k d : Int) (mb cb eb : Bool) : Int :=
  if ¬ (2 ≤ p ∧ p ≤ 6) then 14
  else if v < 1 ∨ 255 < v then 3
  else if r < 0 ∨ (if mb = true then 31 else 0) < r then 3
  else if d < 0 ∨ (if cb = true then 255 else 0) < d then 3
  else if cb = true ∧ eb = false ∨ cb = false ∧ ¬ k = 0 then 10 else 0
def chkI (x : Inf) : Int := chkB x.p x.v x.r x.k x.d (decide (x.p = 2) || decide (x.p = 3)) (x.p == 4) (elemP x.k)
theorem quiet_same_add {P : Program} {f : FuncId} {args : Array Value} {w : World} {a x : Nat} {v : Value} (h : ∀ w, Calls P f args w fun e w' => e = .returned v ∧ w' = w) :
    Calls P f args (w.drewN (a + x)) fun e w'' => e = .returned v ∧ ∃ n, w'' = w.drewN (a + n) := (h _).mono fun _ _ ⟨he, hw⟩ => ⟨he, x, hw⟩
end Go.Proofs.YtjbmmdcnccclaaaDoor
/- Lists of infos: slices that read so; cmp.Compare, cmp.Or; Valid. -/
namespace Go.Proofs.YtjbmmdcnccclaaaDoor
open Go.RowKit Go.Deep

def Inf.fits (x : Inf) : Prop := I64in x.p ∧ I64in x.v ∧ I64in x.r ∧ I64in x.k ∧ I64in x.d
/-- The five cells of an info. -/
def InfAt (w : World) (x : Inf) (b off : Nat) : Prop :=
  w.cell? ⟨b, off, none⟩ = some (.int .i64 x.p) ∧ w.cell? ⟨b, off + 1, none⟩ = some (.int .i64 x.v) ∧ w.cell? ⟨b, off + 2, none⟩ = some (.int .i64 x.r) ∧ w.cell? ⟨b, off + 3, none⟩ = some (.int .i64 x.k) ∧ w.cell? ⟨b, off + 4, none⟩ = some (.int .i64 x.d)
def InfsAt (w : World) : List Inf → Nat → Nat → Prop
  | [], _, _ => True
  | x :: r, b, off => InfAt w x b off ∧ x.fits ∧ InfsAt w r b (off + 5)
/-- A slice of infos. -/
def InfS (w : World) (S : Nat → Prop) (v : Value) (l : List Inf) : Prop :=
  ∃ a c, v = .slice a l.length c ∧ l.length ≤ c ∧ c ≤ 9223372036854775807 ∧ l.length ≤ 3518437208883 ∧ (0 < l.length → ∃ b off, a = some ⟨b, off, none⟩ ∧ S b ∧ b < w.heap.size ∧ InfsAt w l b off)
theorem InfAt.same {w w' : World} {x : Inf} {b off : Nat} (h : InfAt w x b off) (e : w'.heap[b]? = w.heap[b]?) : InfAt w' x b off := by
  have hc : ∀ o, w'.cell? ⟨b, o, none⟩ = w.cell? ⟨b, o, none⟩ := fun o => by simp [World.cell?, e]
  obtain ⟨h0, h1, h2, h3, h4⟩ := h
  exact ⟨(hc _).trans h0, (hc _).trans h1, (hc _).trans h2, (hc _).trans h3, (hc _).trans h4⟩
theorem InfsAt.same {w w' : World} {b : Nat} (e : w'.heap[b]? = w.heap[b]?) : ∀ (l : List Inf) (off : Nat), InfsAt w l b off → InfsAt w' l b off := by
  intro l
  induction l with
  | nil => intros; trivial
  | cons x r ih => intro off ⟨h1, h2, h3⟩; exact ⟨h1.same e, h2, ih _ h3⟩
theorem InfsAt.zero {w : World} {S : Prop} {v : Option Addr} {l : List Inf} {b off : Nat} (h : 0 < l.length → v = some ⟨b, off, none⟩ ∧ S ∧ InfsAt w l b off) : InfsAt w l b off := by
  cases l with
  | nil => trivial
  | cons x r => exact (h (by simp)).2.2
theorem InfS.keep {w w' : World} {S S' : Nat → Prop} {v : Value} {l : List Inf} (h : InfS w S v l) (hk : ∀ b, S b → b < w.heap.size → w'.heap[b]? = w.heap[b]? ∧ S' b) : InfS w' S' v l := by
  obtain ⟨a, c, e, h1, h2, h3, h4⟩ := h
  refine ⟨a, c, e, h1, h2, h3, fun h0 => ?_⟩
  obtain ⟨b, off, ea, hb, hl, hr⟩ := h4 h0
  exact ⟨b, off, ea, (hk b hb hl).2, lt_of_same (hk b hb hl).1 hl, InfsAt.same (hk b hb hl).1 l off hr⟩
theorem InfS.form {w : World} {S : Nat → Prop} {v : Value} {l : List Inf} (h : InfS w S v l) : ∃ a c, v = .slice a l.length c := by
  obtain ⟨a, c, e, _⟩ := h; exact ⟨a, c, e⟩
/-- The slice opened: its block and where it begins. -/
theorem InfS.at {w : World} {S : Nat → Prop} {a : Option Addr} {c : Nat} {l : List Inf} (h : InfS w S (.slice a l.length c) l) : ∃ b off, 0 < l.length → a = some ⟨b, off, none⟩ ∧ (S b ∧ b < w.heap.size) ∧ InfsAt w l b off := by
  obtain ⟨a', c', e, h1, h2, h3, h4⟩ := h
  injection e with e1 _ e3
  subst e1 e3
  rcases Nat.eq_zero_or_pos l.length with h0 | h0
  · exact ⟨0, 0, fun h => by omega⟩
  · obtain ⟨b, off, g1, g2, g3, g4⟩ := h4 h0
    exact ⟨b, off, fun _ => ⟨g1, ⟨g2, g3⟩, g4⟩⟩
/-- What cmp.Compare says. -/
def cmpI (x y : Int) : Int := if x < y then -1 else if y < x then 1 else 0
/-- Whether an info stands wrong behind the one before it. -/
def ordB : Option Inf → Inf → Bool
  | none, _ => false
  | some y, x => decide (x.p < y.p) || (decide (x.p = y.p) && decide (x.d ≤ y.d))
theorem ord_cmp (y x : Inf) : ordB (some y) x = decide (0 ≤ (if cmpI y.p x.p = 0 then cmpI y.d x.d else cmpI y.p x.p)) := by
  rw [Bool.eq_iff_iff]
  simp only [ordB, cmpI, Bool.or_eq_true, Bool.and_eq_true, decide_eq_true_eq]
  by_cases h1 : y.p < x.p <;> by_cases h2 : x.p < y.p <;> by_cases h3 : y.d < x.d <;> by_cases h4 : x.d < y.d <;> simp [h1, h2, h3, h4] <;> omega
def validF : Option Inf → List Inf → Int
  | _, [] => 0
  | q, x :: r => if ¬ chkI x = 0 then chkI x else if ordB q x = true then 17 else validF (some x) r
def validP (l : List Inf) : Int := if 16 < l.length then 2 else validF none l
def PrevAt (w : World) (b off j : Nat) : Option Inf → Prop
  | none => j = 0
  | some y => 0 < j ∧ InfAt w y b (off + (j - 1) * 5) ∧ y.fits
end Go.Proofs.YtjbmmdcnccclaaaDoor
/- Layer 14, plain: what is written for infos and read from objects. No program is named here. -/
namespace Go.Proofs.YtjbmmdcnccclaaaDoor
open Go.RowKit

/-- The last two bytes of a protocol's identifier. -/
def endB (p : Int) : List UInt8 := if p = 2 then [4, 1] else if p = 3 then [4, 2] else if p = 4 then [3, 1] else if p = 5 then [2, 1] else [5, 1]
def preB : List UInt8 := [4, 0, 127, 0, 7, 2, 2]
def identB (p : Int) : List UInt8 := preB ++ endB p
theorem identB_len (p : Int) : (identB p).length = 9 := by unfold identB endB; (repeat' split) <;> rfl
def numN (n : Int) (r : Ns) : Ns := .cons 2 [ofI n] .nil r
def fourB (k : Int) : List UInt8 := [ofI (k / 16777216), ofI (k / 65536), ofI (k / 256), ofI k]
/-- What follows the identifier and the version. -/
def moreN (x : Inf) : Ns := if x.p = 2 ∨ x.p = 3 then numN x.r .nil else if x.p = 4 then .cons 4 (fourB x.k) .nil (numN x.d .nil) else .nil
/-- The objects inside of an info's object. -/
def kidsI (x : Inf) : Ns := .cons 6 (identB x.p) .nil (numN x.v (moreN x))
def setK : List Inf → Ns
  | [] => .nil
  | x :: r => .cons 48 [] (kidsI x) (setK r)
theorem setK_snoc (l : List Inf) (x : Inf) : setK (l ++ [x]) = (setK l).app (.cons 48 [] (kidsI x) .nil) := by
  induction l with
  | nil => rfl
  | cons y r ih => simp [setK, Ns.app, ih]
theorem setK_len (l : List Inf) : (setK l).len = l.length := by
  induction l with
  | nil => rfl
  | cons y r ih => simp [setK, Ns.len, ih]
theorem moreN_all (x : Inf) : (moreN x).all ≤ 2 := by unfold moreN; (repeat' split) <;> simp [Ns.all, numN]
theorem setK_all (l : List Inf) : (setK l).all ≤ 5 * l.length := by
  induction l with
  | nil => simp [setK, Ns.all]
  | cons y r ih => have := moreN_all y; simp [setK, kidsI, numN, Ns.all] at *; omega
/-- What Encode answers. -/
def encI (l : List Inf) : Except Int (List UInt8) := if validP l = 0 then encP (.cons 49 [] (setK l) .nil) else .error (validP l)
theorem valid_len {l : List Inf} (h : validP l = 0) : l.length ≤ 16 := by
  unfold validP at h
  split at h
  · omega
  · omega
/-- The protocol of an identifier, 0 if there is none. -/
def protP (v : List UInt8) : Int := if v = identB 2 then 2 else if v = identB 3 then 3 else if v = identB 4 then 4 else if v = identB 5 then 5 else if v = identB 6 then 6 else 0
def numV (v : List UInt8) : Int := v.foldl (fun n b => 256 * n + bv b) 0
/-- The fields of an info behind its identifier, by protocol. -/
def fieldsP (p : Int) : Ns → Option Inf
  | .cons t1 v1 _ r =>
    if p = 0 then none
    else if p = 2 ∨ p = 3 then
      match r with
      | .cons t2 v2 _ .nil => if t1 = 2 ∧ v1.length = 1 ∧ t2 = 2 ∧ v2.length = 1 then some ⟨p, numV v1, numV v2, 0, 0⟩ else none
      | _ => none
    else if p = 4 then
      match r with
      | .cons t2 v2 _ (.cons t3 v3 _ .nil) => if t1 = 2 ∧ v1.length = 1 ∧ t2 = 4 ∧ v2.length = 4 ∧ t3 = 2 ∧ v3.length = 1 then some ⟨p, numV v1, 0, numV v2, numV v3⟩ else none
      | _ => none
    else
      match r with
      | .nil => if t1 = 2 ∧ v1.length = 1 then some ⟨p, numV v1, 0, 0, 0⟩ else none
      | _ => none
  | .nil => none
/-- The info of an object. -/
def infoP (t : Int) (kids : Ns) : Option Inf :=
  if ¬ t = 48 then none
  else match kids with
    | .cons t0 v0 _ (.cons t1 v1 k1 r) => if t0 = 6 then fieldsP (protP v0) (.cons t1 v1 k1 r) else none
    | _ => none
def infosP : Ns → Option (List Inf)
  | .nil => some []
  | .cons t _ k r =>
    match infoP t k with
    | none => none
    | some x => match infosP r with
      | none => none
      | some l => some (x :: l)
/-- What Decode answers. -/
def decI (b : List UInt8) : Except Int (List Inf) :=
  match parseP b true with
  | .error e => .error e
  | .ok (.cons t _ k .nil) =>
    if t = 49 then
      match infosP k with
      | none => .error 1
      | some l => if validP l = 0 then .ok l else .error (validP l)
    else .error 1
  | .ok _ => .error 1
end Go.Proofs.YtjbmmdcnccclaaaDoor
