/- Plain laws of intervals: least and greatest of fractions, products, sums, powers and Horner's scheme. No program in sight. -/
import Derived.Test.YtehhkeenjlpikaaGreatPoRatX
namespace Go.Proofs.YtehhkeenjlpikaaGreat
open Go.RowKit
def minQ (a b : Rat) : Rat := if a ≤ b then a else b
def maxQ (a b : Rat) : Rat := if b ≤ a then a else b
theorem maxQ_l (a b : Rat) : a ≤ maxQ a b := by unfold maxQ; split <;> grind
theorem le_minQ {m a b : Rat} : m ≤ minQ a b ↔ m ≤ a ∧ m ≤ b := by unfold minQ; split <;> grind
theorem maxQ_le {m a b : Rat} : maxQ a b ≤ m ↔ a ≤ m ∧ b ≤ m := by unfold maxQ; split <;> grind
theorem min_le_max (a b : Rat) : minQ a b ≤ maxQ a b := by unfold minQ maxQ; split <;> split <;> grind
theorem min_max (a b : Rat) : (minQ a b = a ∧ maxQ a b = b) ∨ (minQ a b = b ∧ maxQ a b = a) := by unfold minQ maxQ; split <;> split <;> grind
theorem eq_of_lower {a b : Rat} (h : ∀ m : Rat, m ≤ a ↔ m ≤ b) : a = b := Rat.le_antisymm ((h a).1 Rat.le_refl) ((h b).2 Rat.le_refl)
theorem eq_of_upper {a b : Rat} (h : ∀ m : Rat, a ≤ m ↔ b ≤ m) : a = b := Rat.le_antisymm ((h b).2 Rat.le_refl) ((h a).1 Rat.le_refl)
/-- x lies between p and q. -/
def inI (x p q : Rat) : Prop := minQ p q ≤ x ∧ x ≤ maxQ p q
instance (x p q : Rat) : Decidable (inI x p q) := by unfold inI; exact inferInstance
theorem min_of_le {p q : Rat} (h : p ≤ q) : minQ p q = p := by unfold minQ; rw [if_pos h]
theorem max_of_le {p q : Rat} (h : p ≤ q) : maxQ p q = q := by unfold maxQ; split <;> grind
/-- The least and the greatest of the products of the bounds. -/
def mlo (a b c d : Rat) : Rat := minQ (minQ (minQ (a * c) (a * d)) (b * c)) (b * d)
def mhi (a b c d : Rat) : Rat := maxQ (maxQ (maxQ (a * c) (a * d)) (b * c)) (b * d)
theorem neg_mul_le {a b c : Rat} (h : a ≤ b) (hc : c ≤ 0) : b * c ≤ a * c := by
  have := Rat.mul_le_mul_of_nonneg_right h (c := -c) (by grind)
  grind
/-- [a, b] is in [c, d], bounds in any order. -/
def subI (a b c d : Rat) : Prop := inI a c d ∧ inI b c d
instance (a b c d : Rat) : Decidable (subI a b c d) := by unfold subI; exact inferInstance
/-- Horner's scheme at a number. -/
def hv (x : Rat) : List Rat → Rat
  | [] => 0
  | c :: l => hv x l * x + c
theorem rat_pow_add (x : Rat) (m : Nat) : ∀ n : Nat, x ^ (m + n) = x ^ m * x ^ n
  | 0 => by rw [Nat.add_zero, Rat.pow_zero, Rat.mul_one]
  | n + 1 => by rw [← Nat.add_assoc, Rat.pow_succ, rat_pow_add x m n, Rat.pow_succ, Rat.mul_assoc]
theorem sq_nonneg (x : Rat) : 0 ≤ x * x := by
  rcases Rat.le_total (a := 0) (b := x) with h | h
  · have := Rat.mul_le_mul_of_nonneg_left h h; grind
  · have := neg_mul_le h h; grind
theorem pow_even (x : Rat) (k : Nat) : 0 ≤ x ^ (2 * k) := by
  have h : x ^ (2 * k) = x ^ k * x ^ k := by rw [Nat.two_mul, rat_pow_add]
  rw [h]; exact sq_nonneg _
theorem mul_nn {a b : Rat} (ha : 0 ≤ a) (hb : 0 ≤ b) : 0 ≤ a * b := by
  have := Rat.mul_le_mul_of_nonneg_left hb ha; grind
theorem pow_odd (x : Rat) (k : Nat) : (0 ≤ x → 0 ≤ x ^ (2 * k + 1)) ∧ (x ≤ 0 → x ^ (2 * k + 1) ≤ 0) := by
  rw [Rat.pow_succ]
  refine ⟨fun h => mul_nn (pow_even x k) h, fun h => ?_⟩
  have := mul_nn (pow_even x k) (b := -x) (by grind)
  grind
theorem pow_zero_pos {n : Nat} (h : 0 < n) : (0 : Rat) ^ n = 0 := by
  obtain ⟨k, rfl⟩ : ∃ k, n = k + 1 := ⟨n - 1, by omega⟩
  rw [Rat.pow_succ, Rat.mul_zero]
/-- The power of an interval: what the program finds .. -/
def plo (a b : Rat) (n : Nat) : Rat := if 0 < n ∧ n % 2 = 0 ∧ a * b < 0 then 0 else minQ (a ^ n) (b ^ n)
def phi (a b : Rat) (n : Nat) : Rat := maxQ (a ^ n) (b ^ n)
theorem minQ_comm (a b : Rat) : minQ a b = minQ b a := eq_of_lower fun m => by rw [le_minQ, le_minQ]; grind
theorem maxQ_comm (a b : Rat) : maxQ a b = maxQ b a := eq_of_upper fun m => by rw [maxQ_le, maxQ_le]; grind
theorem plo_norm (a b : Rat) (n : Nat) : plo (minQ a b) (maxQ a b) n = plo a b n ∧ phi (minQ a b) (maxQ a b) n = phi a b n := by
  rcases min_max a b with ⟨e1, e2⟩ | ⟨e1, e2⟩ <;> rw [e1, e2]
  · exact ⟨rfl, rfl⟩
  · unfold plo phi; rw [minQ_comm, maxQ_comm, Rat.mul_comm]; exact ⟨rfl, rfl⟩
/-- .. is what the reference finds: 0 is inside. -/
theorem plo_in {p q : Rat} {n : Nat} (hn : 0 < n) (h1 : p ≤ 0) (h2 : 0 ≤ q) : plo p q n = minQ (minQ (p ^ n) (q ^ n)) 0 ∧ phi p q n = maxQ (maxQ (p ^ n) (q ^ n)) 0 := by
  unfold plo phi
  rcases Nat.mod_two_eq_zero_or_one n with hp | hp
  · obtain ⟨k, rfl⟩ : ∃ k, n = 2 * k := ⟨n / 2, by omega⟩
    have e1 := pow_even p k; have e2 := pow_even q k
    have hmax : maxQ (p ^ (2 * k)) (q ^ (2 * k)) = maxQ (maxQ (p ^ (2 * k)) (q ^ (2 * k))) 0 := by
      have := maxQ_l (p ^ (2 * k)) (q ^ (2 * k))
      exact eq_of_upper fun m => by rw [maxQ_le (b := 0)]; grind
    have hmin : minQ (minQ (p ^ (2 * k)) (q ^ (2 * k))) 0 = 0 := eq_of_lower fun m => by rw [le_minQ, le_minQ]; grind
    refine ⟨?_, hmax⟩
    rw [hmin]
    by_cases hs : p * q < 0
    · rw [if_pos ⟨hn, hp, hs⟩]
    · rw [if_neg (fun h => hs h.2.2)]
      have h0 : p = 0 ∨ q = 0 := by
        have h5 : p * q = 0 := by
          have := mul_nn (a := -p) (b := q) (by grind) h2
          grind
        exact Rat.mul_eq_zero.1 h5
      rcases h0 with h0 | h0
      · subst h0; rw [pow_zero_pos hn, min_of_le e2]
      · subst h0; rw [pow_zero_pos hn, minQ_comm, min_of_le e1]
  · obtain ⟨k, rfl⟩ : ∃ k, n = 2 * k + 1 := ⟨n / 2, by omega⟩
    have e1 := (pow_odd p k).2 h1; have e2 := (pow_odd q k).1 h2
    rw [if_neg (fun h => by omega)]
    constructor
    · exact eq_of_lower fun m => by simp only [le_minQ]; grind
    · exact eq_of_upper fun m => by simp only [maxQ_le]; grind
theorem plo_out {p q : Rat} {n : Nat} (h : p ≤ q) (h0 : 0 < n → ¬ (p ≤ 0 ∧ 0 ≤ q)) : plo p q n = minQ (p ^ n) (q ^ n) ∧ phi p q n = maxQ (p ^ n) (q ^ n) := by
  refine ⟨?_, rfl⟩
  unfold plo
  rw [if_neg]
  rintro ⟨hn, _, hs⟩
  have := h0 hn
  rcases Rat.le_total (a := p) (b := 0) with hp | hp
  · have hq : q ≤ 0 := by grind
    have := mul_nn (a := -p) (b := -q) (by grind) (by grind)
    grind
  · have := mul_nn hp (b := q) (by grind)
    grind
theorem cmpQ_le (a b : Rat) : cmpQ a b ≤ 0 ↔ a ≤ b := by
  unfold cmpQ
  by_cases h : a < b
  · rw [if_pos h]; exact ⟨fun _ => Rat.le_of_lt h, fun _ => by omega⟩
  · rw [if_neg h]
    by_cases h2 : b < a
    · rw [if_pos h2]; exact ⟨fun k => by omega, fun k => absurd h2 (Rat.not_lt.2 k)⟩
    · rw [if_neg h2]; exact ⟨fun _ => Rat.not_lt.1 h2, fun _ => by omega⟩
theorem cmpQ_gt (a b : Rat) : cmpQ a b > 0 ↔ b < a := by
  have h := cmpQ_le a b
  rw [← Rat.not_le, ← h]; omega
theorem cmpQ_ge (a b : Rat) : 0 ≤ cmpQ a b ↔ b ≤ a := by
  unfold cmpQ
  by_cases h : a < b
  · rw [if_pos h]; exact ⟨fun k => by omega, fun k => absurd h (Rat.not_lt.2 k)⟩
  · rw [if_neg h]; refine ⟨fun _ => Rat.not_lt.1 h, fun _ => ?_⟩; split <;> omega
theorem cmpQ_lt (a b : Rat) : cmpQ a b < 0 ↔ a < b := by
  have h := cmpQ_ge a b
  rw [← Rat.not_le, ← h]; omega
end Go.Proofs.YtehhkeenjlpikaaGreat
