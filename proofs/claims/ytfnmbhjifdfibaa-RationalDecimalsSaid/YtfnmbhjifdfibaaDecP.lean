/- The decimal text of a fraction: plain laws. -/
import Derived.Test.YtfnmbhjifdfibaaRatR
import Derived.Test.YtfnmbhjifdfibaaDecX
import Derived.Lib.Repeat
namespace Go.Proofs.Ytfnmbhjifdfibaa
open Go.RowKit
/-- The scaled absolute value, rounded, ties up. -/
def decV (q : Rat) (p : Nat) : Int := floorQ (absQ q * (((10 : Int) ^ p : Int) : Rat) + mkRat 1 2)
theorem decV_mk {x : Int} {y p : Nat} (hy : 0 < y) : decV (mkRat x y) p = ((x.natAbs : Int) * 10 ^ p * 2 ^ 1 + (y : Int)) / ((y : Int) * 2 ^ 1) := by
  unfold decV
  rw [absQ_mk hy, ← Rat.mkRat_one, Rat.mkRat_mul_mkRat, Nat.mul_one, Rat.mkRat_add_mkRat _ _ (by omega) (by omega), floorQ_mk (by omega), Int.natCast_mul]
  rw [show (1 : Int) * (y : Int) = (y : Int) from Int.one_mul _, Int.pow_one]
  rfl
theorem decV_nn {x : Int} {y p : Nat} (hy : 0 < y) : 0 ≤ decV (mkRat x y) p := by
  rw [decV_mk hy]
  refine Int.ediv_nonneg ?_ (by omega)
  have h1 : (0 : Int) ≤ (x.natAbs : Int) * 10 ^ p := Int.mul_nonneg (by omega) (Int.pow_nonneg (by omega))
  omega
/-- Zeros ahead, until a digit stands ahead of the point. -/
def padT (l : List Nat) (p : Nat) : List Nat := List.replicate (p + 1 - l.length) 48 ++ l
/-- The point, p signs from the end. -/
def pointT (l : List Nat) (p : Nat) : List Nat := if 0 < p then l.take (l.length - p) ++ 46 :: l.drop (l.length - p) else l
/-- The text of a fraction, rounded to p decimals. -/
def decT (q : Rat) (p : Nat) : List Nat := (if q.num < 0 ∧ decV q p ≠ 0 then [45] else []) ++ pointT (padT (fmtL 10 (decV q p)) p) p
theorem padT_len (l : List Nat) (p : Nat) : p + 1 ≤ (padT l p).length := by
  unfold padT
  rw [List.length_append, List.length_replicate]
  omega
theorem padT_le (l : List Nat) (p : Nat) : (padT l p).length ≤ l.length + p + 1 := by
  unfold padT
  rw [List.length_append, List.length_replicate]
  omega
theorem padT_no {l : List Nat} {p : Nat} (h : p + 1 ≤ l.length) : padT l p = l := by
  unfold padT
  rw [show p + 1 - l.length = 0 by omega]
  rfl
theorem padT_step {l : List Nat} {p : Nat} (h : l.length ≤ p) : padT (48 :: l) p = padT l p := by
  unfold padT
  rw [List.length_cons, show p + 1 - l.length = (p + 1 - (l.length + 1)) + 1 by omega, List.replicate_succ']
  simp
theorem bs_repeat (n : Nat) : bs ⟨(Lib.repeatL [48] n).toArray⟩ = List.replicate n 48 := by
  have h : Lib.repeatL [48] n = List.replicate n 48 := by
    induction n with
    | zero => rfl
    | succ n ih => rw [List.replicate_succ, ← ih]; rfl
  rw [h]
  simp [bs]
end Go.Proofs.Ytfnmbhjifdfibaa
