/- When an integer fits into 64 bits, for the statements of chapter 02. -/
import Derived.Test.YtcccabgeoaidjaaLaw2c
namespace Go.Proofs.Ytcccabgeoaidjaa
open Go.RowKit
theorem bl_le_of {n k : Nat} (h : n < 2 ^ k) : bl n ≤ k := digs_len_le (by omega) h
theorem lt_of_bl {n k : Nat} (h : bl n ≤ k) : n < 2 ^ k := Nat.lt_of_lt_of_le (lt_pow_len (B := 2) (by omega) n) (Nat.pow_le_pow_right (by omega) h)
theorem words_cases (z : Int) : (bl z.natAbs < 64 ∧ (-9223372036854775808 ≤ z ∧ z ≤ 9223372036854775807)) ∨ (bl z.natAbs = 64 ∧ (-9223372036854775808 ≤ z ∧ z ≤ 9223372036854775807) ∧ z.sign < 0) ∨
    (bl z.natAbs = 64 ∧ ¬ (-9223372036854775808 ≤ z ∧ z ≤ 9223372036854775807) ∧ z.sign < 0) ∨ (bl z.natAbs = 64 ∧ ¬ (-9223372036854775808 ≤ z ∧ z ≤ 9223372036854775807) ∧ 0 ≤ z.sign) ∨
    (64 < bl z.natAbs ∧ ¬ (-9223372036854775808 ≤ z ∧ z ≤ 9223372036854775807)) := by
  have e63 : (2 : Nat) ^ 63 = 9223372036854775808 := by decide
  have e64 : (2 : Nat) ^ 64 = 18446744073709551616 := by decide
  have h1 : bl z.natAbs ≤ 63 → z.natAbs < 9223372036854775808 := fun h => by rw [← e63]; exact lt_of_bl h
  have h2 : bl z.natAbs ≤ 64 → z.natAbs < 18446744073709551616 := fun h => by rw [← e64]; exact lt_of_bl h
  have h3 : z.natAbs < 9223372036854775808 → bl z.natAbs ≤ 63 := fun h => bl_le_of (by rw [e63]; exact h)
  have h4 : z.natAbs < 18446744073709551616 → bl z.natAbs ≤ 64 := fun h => bl_le_of (by rw [e64]; exact h)
  generalize bl z.natAbs = b at *
  rcases sign_cases z with ⟨s, e⟩ | ⟨s, e⟩ | ⟨s, e⟩ <;> rw [e] <;> omega
end Go.Proofs.Ytcccabgeoaidjaa
