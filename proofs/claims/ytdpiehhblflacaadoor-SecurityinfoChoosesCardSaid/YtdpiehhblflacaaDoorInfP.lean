/- Layer 14, plain: what is written for infos and read from objects. No program is named here. -/
import Derived.Test.YtdpiehhblflacaaDoorQInfs
import Derived.Test.YtdpiehhblflacaaDoorQParse
namespace Go.Proofs.YtdpiehhblflacaaDoor
open Go.RowKit

/-- The last two bytes of a protocol's identifier. -/
def endB (p : Int) : List UInt8 := if p = 2 then [4, 1] else if p = 3 then [4, 2] else if p = 4 then [3, 1] else if p = 5 then [2, 1] else [5, 1]
def preB : List UInt8 := [4, 0, 127, 0, 7, 2, 2]
def identB (p : Int) : List UInt8 := preB ++ endB p
theorem identB_len (p : Int) : (identB p).length = 9 := by unfold identB endB; (repeat' split) <;> rfl
def numN (n : Int) (r : Ns) : Ns := .cons 2 [ofI n] .nil r
def fourB (k : Int) : List UInt8 := [ofI (k / 16777216), ofI (k / 65536), ofI (k / 256), ofI k]
/-- What follows the identifier and the version. -/
def moreN (x : Inf) : Ns := if x.p = 2 ∨ x.p = 3 then numN x.r .nil else if x.p = 4 then .cons 4 (fourB x.k) .nil (numN x.d .nil) else .nil
/-- The objects inside of an info's object. -/
def kidsI (x : Inf) : Ns := .cons 6 (identB x.p) .nil (numN x.v (moreN x))
def setK : List Inf → Ns
  | [] => .nil
  | x :: r => .cons 48 [] (kidsI x) (setK r)
theorem setK_snoc (l : List Inf) (x : Inf) : setK (l ++ [x]) = (setK l).app (.cons 48 [] (kidsI x) .nil) := by
  induction l with
  | nil => rfl
  | cons y r ih => simp [setK, Ns.app, ih]
theorem setK_len (l : List Inf) : (setK l).len = l.length := by
  induction l with
  | nil => rfl
  | cons y r ih => simp [setK, Ns.len, ih]
theorem moreN_all (x : Inf) : (moreN x).all ≤ 2 := by unfold moreN; (repeat' split) <;> simp [Ns.all, numN]
theorem setK_all (l : List Inf) : (setK l).all ≤ 5 * l.length := by
  induction l with
  | nil => simp [setK, Ns.all]
  | cons y r ih => have := moreN_all y; simp [setK, kidsI, numN, Ns.all] at *; omega
/-- What Encode answers. -/
def encI (l : List Inf) : Except Int (List UInt8) := if validP l = 0 then encP (.cons 49 [] (setK l) .nil) else .error (validP l)
theorem valid_len {l : List Inf} (h : validP l = 0) : l.length ≤ 16 := by
  unfold validP at h
  split at h
  · omega
  · omega
/-- The protocol of an identifier, 0 if there is none. -/
def protP (v : List UInt8) : Int := if v = identB 2 then 2 else if v = identB 3 then 3 else if v = identB 4 then 4 else if v = identB 5 then 5 else if v = identB 6 then 6 else 0
def numV (v : List UInt8) : Int := v.foldl (fun n b => 256 * n + bv b) 0
/-- The fields of an info behind its identifier, by protocol. -/
def fieldsP (p : Int) : Ns → Option Inf
  | .cons t1 v1 _ r =>
    if p = 0 then none
    else if p = 2 ∨ p = 3 then
      match r with
      | .cons t2 v2 _ .nil => if t1 = 2 ∧ v1.length = 1 ∧ t2 = 2 ∧ v2.length = 1 then some ⟨p, numV v1, numV v2, 0, 0⟩ else none
      | _ => none
    else if p = 4 then
      match r with
      | .cons t2 v2 _ (.cons t3 v3 _ .nil) => if t1 = 2 ∧ v1.length = 1 ∧ t2 = 4 ∧ v2.length = 4 ∧ t3 = 2 ∧ v3.length = 1 then some ⟨p, numV v1, 0, numV v2, numV v3⟩ else none
      | _ => none
    else
      match r with
      | .nil => if t1 = 2 ∧ v1.length = 1 then some ⟨p, numV v1, 0, 0, 0⟩ else none
      | _ => none
  | .nil => none
/-- The info of an object. -/
def infoP (t : Int) (kids : Ns) : Option Inf :=
  if ¬ t = 48 then none
  else match kids with
    | .cons t0 v0 _ (.cons t1 v1 k1 r) => if t0 = 6 then fieldsP (protP v0) (.cons t1 v1 k1 r) else none
    | _ => none
def infosP : Ns → Option (List Inf)
  | .nil => some []
  | .cons t _ k r =>
    match infoP t k with
    | none => none
    | some x => match infosP r with
      | none => none
      | some l => some (x :: l)
/-- What Decode answers. -/
def decI (b : List UInt8) : Except Int (List Inf) :=
  match parseP b true with
  | .error e => .error e
  | .ok (.cons t _ k .nil) =>
    if t = 49 then
      match infosP k with
      | none => .error 1
      | some l => if validP l = 0 then .ok l else .error (validP l)
    else .error 1
  | .ok _ => .error 1
end Go.Proofs.YtdpiehhblflacaaDoor
