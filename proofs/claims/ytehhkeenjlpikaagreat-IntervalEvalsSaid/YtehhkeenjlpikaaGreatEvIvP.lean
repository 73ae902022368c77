/- Plain laws of intervals: least and greatest of fractions, products, sums, powers and Horner's scheme. No program in sight. -/
import Derived.Test.YtehhkeenjlpikaaGreatEvRatX
namespace Go.Proofs.YtehhkeenjlpikaaGreat
open Go.RowKit
def minQ (a b : Rat) : Rat := if a ≤ b then a else b
def maxQ (a b : Rat) : Rat := if b ≤ a then a else b
theorem minQ_l (a b : Rat) : minQ a b ≤ a := by unfold minQ; split <;> grind
theorem minQ_r (a b : Rat) : minQ a b ≤ b := by unfold minQ; split <;> grind
theorem maxQ_l (a b : Rat) : a ≤ maxQ a b := by unfold maxQ; split <;> grind
theorem maxQ_r (a b : Rat) : b ≤ maxQ a b := by unfold maxQ; split <;> grind
theorem le_minQ {m a b : Rat} : m ≤ minQ a b ↔ m ≤ a ∧ m ≤ b := by unfold minQ; split <;> grind
theorem maxQ_le {m a b : Rat} : maxQ a b ≤ m ↔ a ≤ m ∧ b ≤ m := by unfold maxQ; split <;> grind
theorem min_le_max (a b : Rat) : minQ a b ≤ maxQ a b := by unfold minQ maxQ; split <;> split <;> grind
theorem min_max (a b : Rat) : (minQ a b = a ∧ maxQ a b = b) ∨ (minQ a b = b ∧ maxQ a b = a) := by unfold minQ maxQ; split <;> split <;> grind
theorem eq_of_lower {a b : Rat} (h : ∀ m : Rat, m ≤ a ↔ m ≤ b) : a = b := Rat.le_antisymm ((h a).1 Rat.le_refl) ((h b).2 Rat.le_refl)
theorem eq_of_upper {a b : Rat} (h : ∀ m : Rat, a ≤ m ↔ b ≤ m) : a = b := Rat.le_antisymm ((h b).2 Rat.le_refl) ((h a).1 Rat.le_refl)
/-- x lies between p and q. -/
def inI (x p q : Rat) : Prop := minQ p q ≤ x ∧ x ≤ maxQ p q
instance (x p q : Rat) : Decidable (inI x p q) := by unfold inI; exact inferInstance
theorem inI_l (p q : Rat) : inI p p q := ⟨minQ_l _ _, maxQ_l _ _⟩
theorem inI_r (p q : Rat) : inI q p q := ⟨minQ_r _ _, maxQ_r _ _⟩
theorem min_of_le {p q : Rat} (h : p ≤ q) : minQ p q = p := by unfold minQ; rw [if_pos h]
theorem max_of_le {p q : Rat} (h : p ≤ q) : maxQ p q = q := by unfold maxQ; split <;> grind
theorem inI_iff {x p q : Rat} (h : p ≤ q) : inI x p q ↔ p ≤ x ∧ x ≤ q := by unfold inI; rw [min_of_le h, max_of_le h]
/-- The least and the greatest of the products of the bounds. -/
def mlo (a b c d : Rat) : Rat := minQ (minQ (minQ (a * c) (a * d)) (b * c)) (b * d)
def mhi (a b c d : Rat) : Rat := maxQ (maxQ (maxQ (a * c) (a * d)) (b * c)) (b * d)
theorem le_mlo {m a b c d : Rat} : m ≤ mlo a b c d ↔ m ≤ a * c ∧ m ≤ a * d ∧ m ≤ b * c ∧ m ≤ b * d := by
  unfold mlo; simp only [le_minQ]; grind
theorem mhi_le {m a b c d : Rat} : mhi a b c d ≤ m ↔ a * c ≤ m ∧ a * d ≤ m ∧ b * c ≤ m ∧ b * d ≤ m := by
  unfold mhi; simp only [maxQ_le]; grind
theorem mlo_le_mhi (a b c d : Rat) : mlo a b c d ≤ mhi a b c d :=
  Rat.le_trans ((le_mlo.1 Rat.le_refl).1) ((mhi_le.1 Rat.le_refl).1)
theorem neg_mul_le {a b c : Rat} (h : a ≤ b) (hc : c ≤ 0) : b * c ≤ a * c := by
  have := Rat.mul_le_mul_of_nonneg_right h (c := -c) (by grind)
  grind
/-- A product with one factor between two numbers lies above whatever lies below both ends' products. -/
theorem seg_lo {x p q y m : Rat} (h : inI x p q) (h1 : m ≤ p * y) (h2 : m ≤ q * y) : m ≤ x * y := by
  obtain ⟨ha, hb⟩ := h
  rcases min_max p q with ⟨e1, e2⟩ | ⟨e1, e2⟩ <;> rw [e1] at ha <;> rw [e2] at hb
  all_goals
    rcases Rat.le_total (a := 0) (b := y) with hy | hy
    · have := Rat.mul_le_mul_of_nonneg_right ha hy; grind
    · have := neg_mul_le hb hy; grind
theorem seg_hi {x p q y m : Rat} (h : inI x p q) (h1 : p * y ≤ m) (h2 : q * y ≤ m) : x * y ≤ m := by
  have := seg_lo (m := -m) (y := -y) h (by grind) (by grind)
  grind
theorem mul_lo {x y p q r s m : Rat} (hx : inI x p q) (hy : inI y r s) (h : m ≤ mlo p q r s) : m ≤ x * y := by
  rw [le_mlo] at h
  refine seg_lo hx ?_ ?_
  · rw [Rat.mul_comm]; exact seg_lo hy (by grind) (by grind)
  · rw [Rat.mul_comm]; exact seg_lo hy (by grind) (by grind)
theorem mul_hi {x y p q r s m : Rat} (hx : inI x p q) (hy : inI y r s) (h : mhi p q r s ≤ m) : x * y ≤ m := by
  rw [mhi_le] at h
  refine seg_hi hx ?_ ?_
  · rw [Rat.mul_comm]; exact seg_hi hy (by grind) (by grind)
  · rw [Rat.mul_comm]; exact seg_hi hy (by grind) (by grind)
theorem mul_in {x y p q r s : Rat} (hx : inI x p q) (hy : inI y r s) : mlo p q r s ≤ x * y ∧ x * y ≤ mhi p q r s := ⟨mul_lo hx hy Rat.le_refl, mul_hi hx hy Rat.le_refl⟩
theorem le_mlo_all {m a b c d : Rat} : m ≤ mlo a b c d ↔ ∀ x y, inI x a b → inI y c d → m ≤ x * y :=
  ⟨fun h _ _ hx hy => mul_lo hx hy h, fun h => le_mlo.2 ⟨h _ _ (inI_l _ _) (inI_l _ _), h _ _ (inI_l _ _) (inI_r _ _), h _ _ (inI_r _ _) (inI_l _ _), h _ _ (inI_r _ _) (inI_r _ _)⟩⟩
theorem mhi_le_all {m a b c d : Rat} : mhi a b c d ≤ m ↔ ∀ x y, inI x a b → inI y c d → x * y ≤ m :=
  ⟨fun h _ _ hx hy => mul_hi hx hy h, fun h => mhi_le.2 ⟨h _ _ (inI_l _ _) (inI_l _ _), h _ _ (inI_l _ _) (inI_r _ _), h _ _ (inI_r _ _) (inI_l _ _), h _ _ (inI_r _ _) (inI_r _ _)⟩⟩
theorem inI_norm {x p q : Rat} : inI x (minQ p q) (maxQ p q) ↔ inI x p q := by rw [inI_iff (min_le_max _ _)]; rfl
theorem mlo_norm (p q r s : Rat) : mlo (minQ p q) (maxQ p q) (minQ r s) (maxQ r s) = mlo p q r s :=
  eq_of_lower fun m => by simp only [le_mlo_all, inI_norm]
theorem mhi_norm (p q r s : Rat) : mhi (minQ p q) (maxQ p q) (minQ r s) (maxQ r s) = mhi p q r s :=
  eq_of_upper fun m => by simp only [mhi_le_all, inI_norm]
/-- [a, b] is in [c, d], bounds in any order. -/
def subI (a b c d : Rat) : Prop := inI a c d ∧ inI b c d
instance (a b c d : Rat) : Decidable (subI a b c d) := by unfold subI; exact inferInstance
/-- A step of Horner's scheme over an interval: value · i + c. -/
def ev (a b : Rat) : List Rat → Rat × Rat
  | [] => (0, 0)
  | c :: l => (mlo (ev a b l).1 (ev a b l).2 a b + c, mhi (ev a b l).1 (ev a b l).2 a b + c)
/-- Horner's scheme at a number. -/
def hv (x : Rat) : List Rat → Rat
  | [] => 0
  | c :: l => hv x l * x + c
theorem ev_le (a b : Rat) (l : List Rat) : (ev a b l).1 ≤ (ev a b l).2 := by
  cases l with
  | nil => exact Rat.le_refl
  | cons c l => simp only [ev]; have := mlo_le_mhi (ev a b l).1 (ev a b l).2 a b; grind
theorem ev_in {x a b : Rat} (hx : inI x a b) : ∀ l : List Rat, (ev a b l).1 ≤ hv x l ∧ hv x l ≤ (ev a b l).2
  | [] => ⟨Rat.le_refl, Rat.le_refl⟩
  | c :: l => by
    have h := mul_in ((inI_iff (ev_le a b l)).2 (ev_in hx l)) hx
    simp only [ev, hv]
    grind
theorem ev_norm (p q : Rat) : ∀ l, ev (minQ p q) (maxQ p q) l = ev p q l
  | [] => rfl
  | c :: l => by
    have h := ev_norm p q l
    have e := ev_le p q l
    simp only [ev, h]
    have h1 := mlo_norm (ev p q l).1 (ev p q l).2 p q; have h2 := mhi_norm (ev p q l).1 (ev p q l).2 p q
    rw [min_of_le e, max_of_le e] at h1 h2
    rw [h1, h2]

theorem minQ_comm (a b : Rat) : minQ a b = minQ b a := eq_of_lower fun m => by rw [le_minQ, le_minQ]; grind
theorem maxQ_comm (a b : Rat) : maxQ a b = maxQ b a := eq_of_upper fun m => by rw [maxQ_le, maxQ_le]; grind
theorem cmpQ_le (a b : Rat) : cmpQ a b ≤ 0 ↔ a ≤ b := by
  unfold cmpQ
  by_cases h : a < b
  · rw [if_pos h]; exact ⟨fun _ => Rat.le_of_lt h, fun _ => by omega⟩
  · rw [if_neg h]
    by_cases h2 : b < a
    · rw [if_pos h2]; exact ⟨fun k => by omega, fun k => absurd h2 (Rat.not_lt.2 k)⟩
    · rw [if_neg h2]; exact ⟨fun _ => Rat.not_lt.1 h2, fun _ => by omega⟩
theorem cmpQ_gt (a b : Rat) : cmpQ a b > 0 ↔ b < a := by
  have h := cmpQ_le a b
  rw [← Rat.not_le, ← h]; omega
theorem cmpQ_ge (a b : Rat) : 0 ≤ cmpQ a b ↔ b ≤ a := by
  unfold cmpQ
  by_cases h : a < b
  · rw [if_pos h]; exact ⟨fun k => by omega, fun k => absurd h (Rat.not_lt.2 k)⟩
  · rw [if_neg h]; refine ⟨fun _ => Rat.not_lt.1 h, fun _ => ?_⟩; split <;> omega
theorem cmpQ_lt (a b : Rat) : cmpQ a b < 0 ↔ a < b := by
  have h := cmpQ_ge a b
  rw [← Rat.not_le, ← h]; omega
end Go.Proofs.YtehhkeenjlpikaaGreat
