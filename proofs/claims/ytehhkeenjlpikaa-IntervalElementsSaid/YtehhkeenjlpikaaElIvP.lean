/- Plain laws of intervals: least and greatest of fractions, products, sums, powers and Horner's scheme. No program in sight. -/
import Derived.Test.YtehhkeenjlpikaaRatX
namespace Go.Proofs.Ytehhkeenjlpikaa
open Go.RowKit
def minQ (a b : Rat) : Rat := if a ≤ b then a else b
def maxQ (a b : Rat) : Rat := if b ≤ a then a else b
theorem minQ_l (a b : Rat) : minQ a b ≤ a := by unfold minQ; split <;> grind
theorem minQ_r (a b : Rat) : minQ a b ≤ b := by unfold minQ; split <;> grind
theorem maxQ_l (a b : Rat) : a ≤ maxQ a b := by unfold maxQ; split <;> grind
theorem maxQ_r (a b : Rat) : b ≤ maxQ a b := by unfold maxQ; split <;> grind
theorem le_minQ {m a b : Rat} : m ≤ minQ a b ↔ m ≤ a ∧ m ≤ b := by unfold minQ; split <;> grind
theorem maxQ_le {m a b : Rat} : maxQ a b ≤ m ↔ a ≤ m ∧ b ≤ m := by unfold maxQ; split <;> grind
theorem min_le_max (a b : Rat) : minQ a b ≤ maxQ a b := by unfold minQ maxQ; split <;> split <;> grind
theorem min_max (a b : Rat) : (minQ a b = a ∧ maxQ a b = b) ∨ (minQ a b = b ∧ maxQ a b = a) := by unfold minQ maxQ; split <;> split <;> grind
theorem eq_of_lower {a b : Rat} (h : ∀ m : Rat, m ≤ a ↔ m ≤ b) : a = b := Rat.le_antisymm ((h a).1 Rat.le_refl) ((h b).2 Rat.le_refl)
theorem eq_of_upper {a b : Rat} (h : ∀ m : Rat, a ≤ m ↔ b ≤ m) : a = b := Rat.le_antisymm ((h b).2 Rat.le_refl) ((h a).1 Rat.le_refl)
/-- x lies between p and q. -/
def inI (x p q : Rat) : Prop := minQ p q ≤ x ∧ x ≤ maxQ p q
instance (x p q : Rat) : Decidable (inI x p q) := by unfold inI; exact inferInstance
theorem inI_min (p q : Rat) : inI (minQ p q) p q := ⟨Rat.le_refl, min_le_max _ _⟩
theorem inI_max (p q : Rat) : inI (maxQ p q) p q := ⟨min_le_max _ _, Rat.le_refl⟩
theorem inI_of_le {x p q : Rat} (h1 : p ≤ x) (h2 : x ≤ q) : inI x p q := ⟨Rat.le_trans (minQ_l _ _) h1, Rat.le_trans h2 (maxQ_r _ _)⟩
theorem min_of_le {p q : Rat} (h : p ≤ q) : minQ p q = p := by unfold minQ; rw [if_pos h]
theorem max_of_le {p q : Rat} (h : p ≤ q) : maxQ p q = q := by unfold maxQ; split <;> grind
theorem inI_iff {x p q : Rat} (h : p ≤ q) : inI x p q ↔ p ≤ x ∧ x ≤ q := by unfold inI; rw [min_of_le h, max_of_le h]
/-- The least and the greatest of the products of the bounds. -/
def mlo (a b c d : Rat) : Rat := minQ (minQ (minQ (a * c) (a * d)) (b * c)) (b * d)
def mhi (a b c d : Rat) : Rat := maxQ (maxQ (maxQ (a * c) (a * d)) (b * c)) (b * d)
theorem le_mlo {m a b c d : Rat} : m ≤ mlo a b c d ↔ m ≤ a * c ∧ m ≤ a * d ∧ m ≤ b * c ∧ m ≤ b * d := by
  unfold mlo; simp only [le_minQ]; grind
theorem mhi_le {m a b c d : Rat} : mhi a b c d ≤ m ↔ a * c ≤ m ∧ a * d ≤ m ∧ b * c ≤ m ∧ b * d ≤ m := by
  unfold mhi; simp only [maxQ_le]; grind
theorem mlo_le_mhi (a b c d : Rat) : mlo a b c d ≤ mhi a b c d :=
  Rat.le_trans ((le_mlo.1 Rat.le_refl).1) ((mhi_le.1 Rat.le_refl).1)
theorem neg_mul_le {a b c : Rat} (h : a ≤ b) (hc : c ≤ 0) : b * c ≤ a * c := by
  have := Rat.mul_le_mul_of_nonneg_right h (c := -c) (by grind)
  grind
/-- A product with one factor between two numbers lies above whatever lies below both ends' products. -/
theorem seg_lo {x p q y m : Rat} (h : inI x p q) (h1 : m ≤ p * y) (h2 : m ≤ q * y) : m ≤ x * y := by
  obtain ⟨ha, hb⟩ := h
  rcases min_max p q with ⟨e1, e2⟩ | ⟨e1, e2⟩ <;> rw [e1] at ha <;> rw [e2] at hb
  all_goals
    rcases Rat.le_total (a := 0) (b := y) with hy | hy
    · have := Rat.mul_le_mul_of_nonneg_right ha hy; grind
    · have := neg_mul_le hb hy; grind
theorem seg_hi {x p q y m : Rat} (h : inI x p q) (h1 : p * y ≤ m) (h2 : q * y ≤ m) : x * y ≤ m := by
  have := seg_lo (m := -m) (y := -y) h (by grind) (by grind)
  grind
theorem mul_lo {x y p q r s m : Rat} (hx : inI x p q) (hy : inI y r s) (h : m ≤ mlo p q r s) : m ≤ x * y := by
  rw [le_mlo] at h
  refine seg_lo hx ?_ ?_
  · rw [Rat.mul_comm]; exact seg_lo hy (by grind) (by grind)
  · rw [Rat.mul_comm]; exact seg_lo hy (by grind) (by grind)
theorem mul_hi {x y p q r s m : Rat} (hx : inI x p q) (hy : inI y r s) (h : mhi p q r s ≤ m) : x * y ≤ m := by
  rw [mhi_le] at h
  refine seg_hi hx ?_ ?_
  · rw [Rat.mul_comm]; exact seg_hi hy (by grind) (by grind)
  · rw [Rat.mul_comm]; exact seg_hi hy (by grind) (by grind)
theorem mul_in {x y p q r s : Rat} (hx : inI x p q) (hy : inI y r s) : mlo p q r s ≤ x * y ∧ x * y ≤ mhi p q r s := ⟨mul_lo hx hy Rat.le_refl, mul_hi hx hy Rat.le_refl⟩
theorem mul_inM {x y p q r s : Rat} (hx : inI x p q) (hy : inI y r s) : inI (x * y) (mlo p q r s) (mhi p q r s) := (inI_iff (mlo_le_mhi _ _ _ _)).2 (mul_in hx hy)
theorem minQ_neg (a b : Rat) : minQ (-a) (-b) = -maxQ a b := eq_of_lower fun m => by
  have h := maxQ_le (m := -m) (a := a) (b := b)
  rw [le_minQ]; grind
theorem maxQ_neg (a b : Rat) : maxQ (-a) (-b) = -minQ a b := eq_of_upper fun m => by
  have h := le_minQ (m := -m) (a := a) (b := b)
  rw [maxQ_le]; grind
theorem inI_neg {x a b : Rat} : inI (-x) (-a) (-b) ↔ inI x a b := by unfold inI; rw [minQ_neg, maxQ_neg]; grind
theorem add_in {x y a b c d : Rat} (hx : inI x a b) (hy : inI y c d) : minQ a b + minQ c d ≤ x + y ∧ x + y ≤ maxQ a b + maxQ c d := by
  unfold inI at *; grind
/-- [a, b] is in [c, d], bounds in any order. -/
def subI (a b c d : Rat) : Prop := inI a c d ∧ inI b c d
instance (a b c d : Rat) : Decidable (subI a b c d) := by unfold subI; exact inferInstance
/-- Horner's scheme at a number. -/
def hv (x : Rat) : List Rat → Rat
  | [] => 0
  | c :: l => hv x l * x + c
theorem rat_pow_add (x : Rat) (m : Nat) : ∀ n : Nat, x ^ (m + n) = x ^ m * x ^ n
  | 0 => by rw [Nat.add_zero, Rat.pow_zero, Rat.mul_one]
  | n + 1 => by rw [← Nat.add_assoc, Rat.pow_succ, rat_pow_add x m n, Rat.pow_succ, Rat.mul_assoc]
theorem rat_inv_neg (y : Rat) : (-y)⁻¹ = -y⁻¹ := by
  by_cases h : y = 0
  · subst h; rw [Rat.neg_zero, Rat.inv_zero, Rat.neg_zero]
  · have h1 := Rat.mul_inv_cancel y h; have h2 := Rat.mul_inv_cancel (-y) (by grind)
    have h3 : (-y)⁻¹ * (y * y⁻¹) = -(y⁻¹ * (-y * (-y)⁻¹)) := by grind
    rw [h1, h2, Rat.mul_one, Rat.mul_one] at h3
    exact h3
theorem sq_nonneg (x : Rat) : 0 ≤ x * x := by
  rcases Rat.le_total (a := 0) (b := x) with h | h
  · have := Rat.mul_le_mul_of_nonneg_left h h; grind
  · have := neg_mul_le h h; grind
theorem pow_even (x : Rat) (k : Nat) : 0 ≤ x ^ (2 * k) := by
  have h : x ^ (2 * k) = x ^ k * x ^ k := by rw [Nat.two_mul, rat_pow_add]
  rw [h]; exact sq_nonneg _
theorem mul_nn {a b : Rat} (ha : 0 ≤ a) (hb : 0 ≤ b) : 0 ≤ a * b := by
  have := Rat.mul_le_mul_of_nonneg_left hb ha; grind
/-- The power of an interval: what the program finds .. -/
def plo (a b : Rat) (n : Nat) : Rat := if 0 < n ∧ n % 2 = 0 ∧ a * b < 0 then 0 else minQ (a ^ n) (b ^ n)
def phi (a b : Rat) (n : Nat) : Rat := maxQ (a ^ n) (b ^ n)
theorem minQ_comm (a b : Rat) : minQ a b = minQ b a := eq_of_lower fun m => by rw [le_minQ, le_minQ]; grind
theorem maxQ_comm (a b : Rat) : maxQ a b = maxQ b a := eq_of_upper fun m => by rw [maxQ_le, maxQ_le]; grind
theorem plo_le_phi (a b : Rat) (n : Nat) : plo a b n ≤ phi a b n := by
  unfold plo phi
  split
  · rename_i h
    obtain ⟨k, rfl⟩ : ∃ k, n = 2 * k := ⟨n / 2, by omega⟩
    have := pow_even a k; have := maxQ_l (a ^ (2 * k)) (b ^ (2 * k)); grind
  · exact min_le_max _ _
theorem sq_hi {x p q : Rat} (h : inI x p q) : x * x ≤ maxQ (p * p) (q * q) := by
  refine mul_hi h h (mhi_le.2 ?_)
  have h1 := maxQ_l (p * p) (q * q); have h2 := maxQ_r (p * p) (q * q)
  have h3 := sq_nonneg (p - q)
  grind
theorem sq_lo {x p q : Rat} (h : inI x p q) (hs : ¬ p * q < 0) : minQ (p * p) (q * q) ≤ x * x := by
  refine mul_lo h h (le_mlo.2 ?_)
  have h1 := minQ_l (p * p) (q * q); have h2 := minQ_r (p * p) (q * q)
  have h5 : minQ (p * p) (q * q) ≤ p * q := by
    rcases Rat.le_total (a := 0) (b := p) with hp | hp <;> rcases Rat.le_total (a := 0) (b := q) with hq | hq
    · rcases Rat.le_total (a := p) (b := q) with e | e
      · have := Rat.mul_le_mul_of_nonneg_left e hp; grind
      · have := Rat.mul_le_mul_of_nonneg_right e hq; grind
    · have := mul_nn hp (b := -q) (by grind)
      have : p * q = 0 := by grind
      rcases Rat.mul_eq_zero.1 this with e | e <;> subst e <;> grind
    · have := mul_nn (a := -p) (by grind) hq
      have : p * q = 0 := by grind
      rcases Rat.mul_eq_zero.1 this with e | e <;> subst e <;> grind
    · rcases Rat.le_total (a := p) (b := q) with e | e
      · have := neg_mul_le e hq; grind
      · have := neg_mul_le e hp; grind
  grind
theorem pow4 (x : Rat) : x ^ 4 = x * x * (x * x) := by
  rw [show (4 : Nat) = 2 * 2 from rfl, Nat.two_mul, rat_pow_add, show (2 : Nat) = 1 + 1 from rfl, rat_pow_add, Rat.pow_succ, Rat.pow_zero, Rat.one_mul]
theorem sq_mono {a b : Rat} (h0 : 0 ≤ a) (h : a ≤ b) : a * a ≤ b * b := by
  have h1 := Rat.mul_le_mul_of_nonneg_left h h0; have h2 := Rat.mul_le_mul_of_nonneg_right h (c := b) (by grind)
  grind
theorem pow4_in {x p q : Rat} (h : inI x p q) : plo p q 4 ≤ x ^ 4 ∧ x ^ 4 ≤ phi p q 4 := by
  unfold plo phi
  rw [pow4, pow4, pow4]
  have e0 := sq_nonneg x; have e1 := sq_nonneg p; have e2 := sq_nonneg q
  constructor
  · by_cases hs : p * q < 0
    · rw [if_pos ⟨by omega, rfl, hs⟩]; exact sq_nonneg _
    · rw [if_neg (fun h => hs h.2.2)]
      have h1 := sq_lo h hs
      have m1 := minQ_l (p * p * (p * p)) (q * q * (q * q)); have m2 := minQ_r (p * p * (p * p)) (q * q * (q * q))
      rcases min_max (p * p) (q * q) with ⟨k1, k2⟩ | ⟨k1, k2⟩ <;> rw [k1] at h1
      · have := sq_mono e1 h1; grind
      · have := sq_mono e2 h1; grind
  · have h1 := sq_hi h
    have m1 := maxQ_l (p * p * (p * p)) (q * q * (q * q)); have m2 := maxQ_r (p * p * (p * p)) (q * q * (q * q))
    rcases min_max (p * p) (q * q) with ⟨k1, k2⟩ | ⟨k1, k2⟩ <;> rw [k2] at h1
    · have := sq_mono e0 h1; grind
    · have := sq_mono e0 h1; grind
theorem inv_pos {x : Rat} (h : 0 < x) : 0 < x⁻¹ := Rat.inv_pos.2 h
theorem inv_anti {a b : Rat} (ha : 0 < a) (h : a ≤ b) : b⁻¹ ≤ a⁻¹ := by
  have hb : 0 < b := by grind
  have h1 := Rat.mul_inv_cancel a (by grind); have h2 := Rat.mul_inv_cancel b (by grind)
  have h3 := inv_pos ha; have h4 := inv_pos hb
  have h5 := Rat.mul_le_mul_of_nonneg_right h (c := a⁻¹ * b⁻¹) (mul_nn (Rat.le_of_lt h3) (Rat.le_of_lt h4))
  have e1 : a * (a⁻¹ * b⁻¹) = b⁻¹ := by rw [← Rat.mul_assoc, h1, Rat.one_mul]
  have e2 : b * (a⁻¹ * b⁻¹) = a⁻¹ := by rw [Rat.mul_comm a⁻¹, ← Rat.mul_assoc, h2, Rat.one_mul]
  rw [e1, e2] at h5
  exact h5
theorem inv_in {x c d : Rat} (h : inI x c d) (hs : 0 < c * d) : inI x⁻¹ c⁻¹ d⁻¹ := by
  have key : ∀ {x c d : Rat}, inI x c d → 0 < c → 0 < d → inI x⁻¹ c⁻¹ d⁻¹ := fun {x c d} h hc hd => by
    unfold inI at h
    rcases Rat.le_total (a := c) (b := d) with e | e
    · rw [min_of_le e, max_of_le e] at h
      have h1 := inv_anti hc h.1; have h2 := inv_anti (by grind) h.2
      have := inI_of_le h2 h1
      unfold inI at *; rw [minQ_comm, maxQ_comm]; exact this
    · rw [minQ_comm, maxQ_comm, min_of_le e, max_of_le e] at h
      exact inI_of_le (inv_anti (by grind) h.2) (inv_anti hd h.1)
  rcases Rat.le_total (a := 0) (b := c) with hc | hc
  · have c0 : 0 < c := by
      rcases Rat.le_iff_lt_or_eq.1 hc with e | e
      · exact e
      · subst e; grind
    have d0 : 0 < d := by
      rcases Rat.le_total (a := d) (b := 0) with e | e
      · have := mul_nn hc (b := -d) (by grind); grind
      · rcases Rat.le_iff_lt_or_eq.1 e with e | e
        · exact e
        · subst e; grind
    exact key h c0 d0
  · have c0 : 0 < -c := by
      rcases Rat.le_iff_lt_or_eq.1 hc with e | e
      · grind
      · subst e; grind
    have d0 : 0 < -d := by
      rcases Rat.le_total (a := 0) (b := d) with e | e
      · have := mul_nn (a := -c) (by grind) e; grind
      · rcases Rat.le_iff_lt_or_eq.1 e with e | e
        · grind
        · subst e; grind
    have := key (inI_neg.2 h) c0 d0
    have e : ∀ y : Rat, (-y)⁻¹ = -y⁻¹ := fun y => rat_inv_neg y
    rw [e, e, e] at this
    exact inI_neg.1 this
theorem cmpQ_le (a b : Rat) : cmpQ a b ≤ 0 ↔ a ≤ b := by
  unfold cmpQ
  by_cases h : a < b
  · rw [if_pos h]; exact ⟨fun _ => Rat.le_of_lt h, fun _ => by omega⟩
  · rw [if_neg h]
    by_cases h2 : b < a
    · rw [if_pos h2]; exact ⟨fun k => by omega, fun k => absurd h2 (Rat.not_lt.2 k)⟩
    · rw [if_neg h2]; exact ⟨fun _ => Rat.not_lt.1 h2, fun _ => by omega⟩
theorem cmpQ_gt (a b : Rat) : cmpQ a b > 0 ↔ b < a := by
  have h := cmpQ_le a b
  rw [← Rat.not_le, ← h]; omega
theorem cmpQ_ge (a b : Rat) : 0 ≤ cmpQ a b ↔ b ≤ a := by
  unfold cmpQ
  by_cases h : a < b
  · rw [if_pos h]; exact ⟨fun k => by omega, fun k => absurd h (Rat.not_lt.2 k)⟩
  · rw [if_neg h]; refine ⟨fun _ => Rat.not_lt.1 h, fun _ => ?_⟩; split <;> omega
theorem cmpQ_lt (a b : Rat) : cmpQ a b < 0 ↔ a < b := by
  have h := cmpQ_ge a b
  rw [← Rat.not_le, ← h]; omega
end Go.Proofs.Ytehhkeenjlpikaa
