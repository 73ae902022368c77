/- Plain laws of intervals: least and greatest of fractions, products, sums, powers and Horner's scheme. No program in sight. -/
import Derived.Test.YtehhkeenjlpikaaGreatSeRatX
namespace Go.Proofs.YtehhkeenjlpikaaGreat
open Go.RowKit
def minQ (a b : Rat) : Rat := if a ≤ b then a else b
def maxQ (a b : Rat) : Rat := if b ≤ a then a else b
theorem le_minQ {m a b : Rat} : m ≤ minQ a b ↔ m ≤ a ∧ m ≤ b := by unfold minQ; split <;> grind
theorem maxQ_le {m a b : Rat} : maxQ a b ≤ m ↔ a ≤ m ∧ b ≤ m := by unfold maxQ; split <;> grind
theorem min_le_max (a b : Rat) : minQ a b ≤ maxQ a b := by unfold minQ maxQ; split <;> split <;> grind
theorem min_max (a b : Rat) : (minQ a b = a ∧ maxQ a b = b) ∨ (minQ a b = b ∧ maxQ a b = a) := by unfold minQ maxQ; split <;> split <;> grind
theorem eq_of_lower {a b : Rat} (h : ∀ m : Rat, m ≤ a ↔ m ≤ b) : a = b := Rat.le_antisymm ((h a).1 Rat.le_refl) ((h b).2 Rat.le_refl)
theorem eq_of_upper {a b : Rat} (h : ∀ m : Rat, a ≤ m ↔ b ≤ m) : a = b := Rat.le_antisymm ((h b).2 Rat.le_refl) ((h a).1 Rat.le_refl)
/-- x lies between p and q. -/
def inI (x p q : Rat) : Prop := minQ p q ≤ x ∧ x ≤ maxQ p q
instance (x p q : Rat) : Decidable (inI x p q) := by unfold inI; exact inferInstance
theorem min_of_le {p q : Rat} (h : p ≤ q) : minQ p q = p := by unfold minQ; rw [if_pos h]
theorem max_of_le {p q : Rat} (h : p ≤ q) : maxQ p q = q := by unfold maxQ; split <;> grind
/-- The least and the greatest of the products of the bounds. -/
def mlo (a b c d : Rat) : Rat := minQ (minQ (minQ (a * c) (a * d)) (b * c)) (b * d)
def mhi (a b c d : Rat) : Rat := maxQ (maxQ (maxQ (a * c) (a * d)) (b * c)) (b * d)
/-- [a, b] is in [c, d], bounds in any order. -/
def subI (a b c d : Rat) : Prop := inI a c d ∧ inI b c d
instance (a b c d : Rat) : Decidable (subI a b c d) := by unfold subI; exact inferInstance
/-- Horner's scheme at a number. -/
def hv (x : Rat) : List Rat → Rat
  | [] => 0
  | c :: l => hv x l * x + c
theorem minQ_comm (a b : Rat) : minQ a b = minQ b a := eq_of_lower fun m => by rw [le_minQ, le_minQ]; grind
theorem maxQ_comm (a b : Rat) : maxQ a b = maxQ b a := eq_of_upper fun m => by rw [maxQ_le, maxQ_le]; grind
theorem cmpQ_le (a b : Rat) : cmpQ a b ≤ 0 ↔ a ≤ b := by
  unfold cmpQ
  by_cases h : a < b
  · rw [if_pos h]; exact ⟨fun _ => Rat.le_of_lt h, fun _ => by omega⟩
  · rw [if_neg h]
    by_cases h2 : b < a
    · rw [if_pos h2]; exact ⟨fun k => by omega, fun k => absurd h2 (Rat.not_lt.2 k)⟩
    · rw [if_neg h2]; exact ⟨fun _ => Rat.not_lt.1 h2, fun _ => by omega⟩
theorem cmpQ_gt (a b : Rat) : cmpQ a b > 0 ↔ b < a := by
  have h := cmpQ_le a b
  rw [← Rat.not_le, ← h]; omega
theorem cmpQ_ge (a b : Rat) : 0 ≤ cmpQ a b ↔ b ≤ a := by
  unfold cmpQ
  by_cases h : a < b
  · rw [if_pos h]; exact ⟨fun k => by omega, fun k => absurd h (Rat.not_lt.2 k)⟩
  · rw [if_neg h]; refine ⟨fun _ => Rat.not_lt.1 h, fun _ => ?_⟩; split <;> omega
theorem cmpQ_lt (a b : Rat) : cmpQ a b < 0 ↔ a < b := by
  have h := cmpQ_ge a b
  rw [← Rat.not_le, ← h]; omega
end Go.Proofs.YtehhkeenjlpikaaGreat
