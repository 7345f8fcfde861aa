/- Fields and values as the document has them: whether they may be, how many bytes, whether a record fits, its bytes, and back. No condition. -/
import Derived.Test.YtacgngfjanlfnaaLL
namespace Go.Proofs.Ytacgngfjanlfnaa
open Go

/-- A field. -/
inductive Fld where
  | mk (kind : Int) (mn mx : UInt64) (of : List Fld)
/-- A value. -/
inductive Val where
  | mk (n : UInt64) (b : List UInt8) (l : List (List Val))

/-- How many bytes a number needs. -/
def wid (n : Nat) : Nat := if n < 256 then 1 else if n < 65536 then 2 else if n < 16777216 then 3 else if n < 4294967296 then 4 else if n < 1099511627776 then 5 else if n < 281474976710656 then 6 else if n < 72057594037927936 then 7 else 8
theorem wid_pos (n : Nat) : 1 ≤ wid n := by unfold wid; repeat' split <;> try omega
theorem wid_le (n : Nat) : wid n ≤ 8 := by unfold wid; repeat' split <;> try omega
theorem wid_lt {n : Nat} (h : n < 18446744073709551616) : n < 256 ^ wid n := by
  unfold wid
  repeat' split <;> try omega
/-- A number's bytes, the lowest first. -/
def leB (n : Nat) : Nat → List UInt8
  | 0 => []
  | k + 1 => UInt8.ofNat (n % 256) :: leB (n / 256) k
def leN : List UInt8 → Nat
  | [] => 0
  | c :: r => c.toNat + 256 * leN r
theorem leB_len : ∀ (k n : Nat), (leB n k).length = k
  | 0, _ => rfl
  | k + 1, n => by simp [leB, leB_len k]
theorem leN_leB : ∀ (k n : Nat), n < 256 ^ k → leN (leB n k) = n
  | 0, n, h => by simp at h; simp [leB, leN, h]
  | k + 1, n, h => by
    have h1 : n / 256 < 256 ^ k := by rw [Nat.pow_succ] at h; exact Nat.div_lt_of_lt_mul (by rw [Nat.mul_comm]; exact h)
    rw [leB, leN, leN_leB k _ h1, UInt8.toNat_ofNat']
    omega
theorem leB_leN : ∀ (bs : List UInt8), leB (leN bs) bs.length = bs
  | [] => rfl
  | c :: r => by
    have hc := c.toNat_lt
    rw [List.length_cons, leB, leN, show (c.toNat + 256 * leN r) / 256 = leN r by omega, leB_leN r, show (c.toNat + 256 * leN r) % 256 = c.toNat by omega, UInt8.ofNat_toNat]
theorem leN_lt : ∀ (bs : List UInt8), leN bs < 256 ^ bs.length
  | [] => by simp [leN]
  | c :: r => by
    have hc := c.toNat_lt
    have := leN_lt r
    rw [leN, List.length_cons, Nat.pow_succ]
    omega

mutual
def okF : Fld → Prop
  | .mk k mn mx of => (k = 1 ∨ k = 2 ∨ k = 3) ∧ mn ≤ mx ∧ (k ≠ 1 → mx.toNat ≤ 65536) ∧ okL of
def okL : List Fld → Prop
  | [] => True
  | f :: r => okF f ∧ okL r
end
/-- What a field adds at most, at a depth; what fields add to a sum. -/
def put1 (s n : Nat) : Option Nat := if s + n > 1048576 then none else some (s + n)
mutual
def mostF (d : Nat) : Fld → Option Nat
  | .mk k mn mx of =>
    let each : Option Nat := if k = 1 then (if of = [] then some 0 else none) else if k = 2 then (if of = [] then some 1 else none) else if k = 3 then (if of.length < 1 ∨ of.length > 16 ∨ d + 1 > 4 then none else mostL (d + 1) of 0) else none
    match each with
    | none => none
    | some e => if mx < mn ∨ (k ≠ 1 ∧ mx.toNat > 65536) then none else some (wid (mx - mn).toNat + (if k ≠ 1 then mx.toNat * e else 0))
def mostL (d : Nat) : List Fld → Nat → Option Nat
  | [], s => some s
  | f :: r, s => match mostF d f with
    | none => none
    | some n => if s + n > 1048576 then none else mostL d r (s + n)
end
def mostR (d : Nat) (l : List Fld) : Option Nat := if l.length < 1 ∨ l.length > 16 ∨ d > 4 then none else mostL d l 0

mutual
/-- Does a value fit a field? -/
def fitF : Fld → Val → Bool
  | .mk k mn mx of, .mk n b l =>
    if k = 1 then decide (b = []) && (l.isEmpty && (decide (mn ≤ n) && decide (n ≤ mx)))
    else if k = 2 then decide (n = 0) && (l.isEmpty && (decide (mn.toNat ≤ b.length) && decide (b.length ≤ mx.toNat)))
    else decide (n = 0) && (decide (b = []) && ((decide (mn.toNat ≤ l.length) && decide (l.length ≤ mx.toNat)) && l.all fun r => fitR of r))
def fitR : List Fld → List Val → Bool
  | [], [] => true
  | f :: fs, v :: vs => fitF f v && fitR fs vs
  | _, _ => false
end
mutual
/-- Its bytes. -/
def putF : Fld → Val → List UInt8
  | .mk k mn mx of, .mk n b l =>
    if k = 1 then leB (n.toNat - mn.toNat) (wid (mx - mn).toNat)
    else if k = 2 then leB (b.length - mn.toNat) (wid (mx - mn).toNat) ++ b
    else leB (l.length - mn.toNat) (wid (mx - mn).toNat) ++ l.flatMap fun r => putR of r
def putR : List Fld → List Val → List UInt8
  | f :: fs, v :: vs => putF f v ++ putR fs vs
  | _, _ => []
end
/-- So many things, one behind the other. -/
def rep {α : Type} (p : List UInt8 → Option (α × List UInt8)) : Nat → List UInt8 → Option (List α × List UInt8)
  | 0, bs => some ([], bs)
  | n + 1, bs => match p bs with
    | none => none
    | some (x, r) => match rep p n r with
      | none => none
      | some (xs, r') => some (x :: xs, r')
/-- A number of a span. -/
def numD (mn mx : UInt64) (bs : List UInt8) : Option (Nat × List UInt8) :=
  let w := wid (mx - mn).toNat
  if bs.length < w then none else if leN (bs.take w) > (mx - mn).toNat then none else some (leN (bs.take w) + mn.toNat, bs.drop w)
mutual
def decF : Fld → List UInt8 → Option (Val × List UInt8)
  | .mk k mn mx of, bs => match numD mn mx bs with
    | none => none
    | some (n, r) =>
      if k = 2 then (if r.length < n then none else some (.mk 0 (r.take n) [], r.drop n))
      else if k = 3 then (match rep (fun bs => decR of bs) n r with | none => none | some (l, r') => some (.mk 0 [] l, r'))
      else some (.mk (UInt64.ofNat n) [] [], r)
def decR : List Fld → List UInt8 → Option (List Val × List UInt8)
  | [], bs => some ([], bs)
  | f :: fs, bs => match decF f bs with
    | none => none
    | some (v, r) => match decR fs r with
      | none => none
      | some (vs, r') => some (v :: vs, r')
end
end Go.Proofs.Ytacgngfjanlfnaa
