/- Plain laws of intervals: least and greatest of fractions, products, sums, powers and Horner's scheme. No program in sight. -/
import Derived.Test.YtehhkeenjlpikaaRatX
namespace Go.Proofs.Ytehhkeenjlpikaa
open Go.RowKit
def minQ (a b : Rat) : Rat := if a ≤ b then a else b
def maxQ (a b : Rat) : Rat := if b ≤ a then a else b
theorem minQ_l (a b : Rat) : minQ a b ≤ a := by unfold minQ; split <;> grind
theorem minQ_r (a b : Rat) : minQ a b ≤ b := by unfold minQ; split <;> grind
theorem maxQ_l (a b : Rat) : a ≤ maxQ a b := by unfold maxQ; split <;> grind
theorem maxQ_r (a b : Rat) : b ≤ maxQ a b := by unfold maxQ; split <;> grind
theorem le_minQ {m a b : Rat} : m ≤ minQ a b ↔ m ≤ a ∧ m ≤ b := by unfold minQ; split <;> grind
theorem maxQ_le {m a b : Rat} : maxQ a b ≤ m ↔ a ≤ m ∧ b ≤ m := by unfold maxQ; split <;> grind
theorem min_le_max (a b : Rat) : minQ a b ≤ maxQ a b := by unfold minQ maxQ; split <;> split <;> grind
theorem min_max (a b : Rat) : (minQ a b = a ∧ maxQ a b = b) ∨ (minQ a b = b ∧ maxQ a b = a) := by unfold minQ maxQ; split <;> split <;> grind
theorem eq_of_lower {a b : Rat} (h : ∀ m : Rat, m ≤ a ↔ m ≤ b) : a = b := Rat.le_antisymm ((h a).1 Rat.le_refl) ((h b).2 Rat.le_refl)
theorem eq_of_upper {a b : Rat} (h : ∀ m : Rat, a ≤ m ↔ b ≤ m) : a = b := Rat.le_antisymm ((h b).2 Rat.le_refl) ((h a).1 Rat.le_refl)
/-- x lies between p and q. -/
def inI (x p q : Rat) : Prop := minQ p q ≤ x ∧ x ≤ maxQ p q
instance (x p q : Rat) : Decidable (inI x p q) := by unfold inI; exact inferInstance
theorem inI_l (p q : Rat) : inI p p q := ⟨minQ_l _ _, maxQ_l _ _⟩
theorem inI_r (p q : Rat) : inI q p q := ⟨minQ_r _ _, maxQ_r _ _⟩
theorem inI_min (p q : Rat) : inI (minQ p q) p q := ⟨Rat.le_refl, min_le_max _ _⟩
theorem inI_max (p q : Rat) : inI (maxQ p q) p q := ⟨min_le_max _ _, Rat.le_refl⟩
theorem inI_of_le {x p q : Rat} (h1 : p ≤ x) (h2 : x ≤ q) : inI x p q := ⟨Rat.le_trans (minQ_l _ _) h1, Rat.le_trans h2 (maxQ_r _ _)⟩
theorem min_of_le {p q : Rat} (h : p ≤ q) : minQ p q = p := by unfold minQ; rw [if_pos h]
theorem max_of_le {p q : Rat} (h : p ≤ q) : maxQ p q = q := by unfold maxQ; split <;> grind
theorem inI_iff {x p q : Rat} (h : p ≤ q) : inI x p q ↔ p ≤ x ∧ x ≤ q := by unfold inI; rw [min_of_le h, max_of_le h]
/-- The least and the greatest of the products of the bounds. -/
def mlo (a b c d : Rat) : Rat := minQ (minQ (minQ (a * c) (a * d)) (b * c)) (b * d)
def mhi (a b c d : Rat) : Rat := maxQ (maxQ (maxQ (a * c) (a * d)) (b * c)) (b * d)
theorem le_mlo {m a b c d : Rat} : m ≤ mlo a b c d ↔ m ≤ a * c ∧ m ≤ a * d ∧ m ≤ b * c ∧ m ≤ b * d := by
  unfold mlo; simp only [le_minQ]; grind
theorem mhi_le {m a b c d : Rat} : mhi a b c d ≤ m ↔ a * c ≤ m ∧ a * d ≤ m ∧ b * c ≤ m ∧ b * d ≤ m := by
  unfold mhi; simp only [maxQ_le]; grind
theorem mlo_le_mhi (a b c d : Rat) : mlo a b c d ≤ mhi a b c d :=
  Rat.le_trans ((le_mlo.1 Rat.le_refl).1) ((mhi_le.1 Rat.le_refl).1)
theorem neg_mul_le {a b c : Rat} (h : a ≤ b) (hc : c ≤ 0) : b * c ≤ a * c := by
  have := Rat.mul_le_mul_of_nonneg_right h (c := -c) (by grind)
  grind
/-- A product with one factor between two numbers lies above whatever lies below both ends' products. -/
theorem seg_lo {x p q y m : Rat} (h : inI x p q) (h1 : m ≤ p * y) (h2 : m ≤ q * y) : m ≤ x * y := by
  obtain ⟨ha, hb⟩ := h
  rcases min_max p q with ⟨e1, e2⟩ | ⟨e1, e2⟩ <;> rw [e1] at ha <;> rw [e2] at hb
  all_goals
    rcases Rat.le_total (a := 0) (b := y) with hy | hy
    · have := Rat.mul_le_mul_of_nonneg_right ha hy; grind
    · have := neg_mul_le hb hy; grind
theorem seg_hi {x p q y m : Rat} (h : inI x p q) (h1 : p * y ≤ m) (h2 : q * y ≤ m) : x * y ≤ m := by
  have := seg_lo (m := -m) (y := -y) h (by grind) (by grind)
  grind
theorem mul_lo {x y p q r s m : Rat} (hx : inI x p q) (hy : inI y r s) (h : m ≤ mlo p q r s) : m ≤ x * y := by
  rw [le_mlo] at h
  refine seg_lo hx ?_ ?_
  · rw [Rat.mul_comm]; exact seg_lo hy (by grind) (by grind)
  · rw [Rat.mul_comm]; exact seg_lo hy (by grind) (by grind)
theorem mul_hi {x y p q r s m : Rat} (hx : inI x p q) (hy : inI y r s) (h : mhi p q r s ≤ m) : x * y ≤ m := by
  rw [mhi_le] at h
  refine seg_hi hx ?_ ?_
  · rw [Rat.mul_comm]; exact seg_hi hy (by grind) (by grind)
  · rw [Rat.mul_comm]; exact seg_hi hy (by grind) (by grind)
theorem mul_in {x y p q r s : Rat} (hx : inI x p q) (hy : inI y r s) : mlo p q r s ≤ x * y ∧ x * y ≤ mhi p q r s := ⟨mul_lo hx hy Rat.le_refl, mul_hi hx hy Rat.le_refl⟩
theorem le_mlo_all {m a b c d : Rat} : m ≤ mlo a b c d ↔ ∀ x y, inI x a b → inI y c d → m ≤ x * y :=
  ⟨fun h _ _ hx hy => mul_lo hx hy h, fun h => le_mlo.2 ⟨h _ _ (inI_l _ _) (inI_l _ _), h _ _ (inI_l _ _) (inI_r _ _), h _ _ (inI_r _ _) (inI_l _ _), h _ _ (inI_r _ _) (inI_r _ _)⟩⟩
theorem mhi_le_all {m a b c d : Rat} : mhi a b c d ≤ m ↔ ∀ x y, inI x a b → inI y c d → x * y ≤ m :=
  ⟨fun h _ _ hx hy => mul_hi hx hy h, fun h => mhi_le.2 ⟨h _ _ (inI_l _ _) (inI_l _ _), h _ _ (inI_l _ _) (inI_r _ _), h _ _ (inI_r _ _) (inI_l _ _), h _ _ (inI_r _ _) (inI_r _ _)⟩⟩
theorem inI_norm {x p q : Rat} : inI x (minQ p q) (maxQ p q) ↔ inI x p q := by rw [inI_iff (min_le_max _ _)]; rfl
theorem mlo_norm (p q r s : Rat) : mlo (minQ p q) (maxQ p q) (minQ r s) (maxQ r s) = mlo p q r s :=
  eq_of_lower fun m => by simp only [le_mlo_all, inI_norm]
theorem mhi_norm (p q r s : Rat) : mhi (minQ p q) (maxQ p q) (minQ r s) (maxQ r s) = mhi p q r s :=
  eq_of_upper fun m => by simp only [mhi_le_all, inI_norm]
theorem mlo_comm (a b c d : Rat) : mlo a b c d = mlo c d a b := eq_of_lower fun m => by
  simp only [le_mlo_all]; exact ⟨fun h x y hx hy => by rw [Rat.mul_comm]; exact h _ _ hy hx, fun h x y hx hy => by rw [Rat.mul_comm]; exact h _ _ hy hx⟩
theorem mhi_comm (a b c d : Rat) : mhi a b c d = mhi c d a b := eq_of_upper fun m => by
  simp only [mhi_le_all]; exact ⟨fun h x y hx hy => by rw [Rat.mul_comm]; exact h _ _ hy hx, fun h x y hx hy => by rw [Rat.mul_comm]; exact h _ _ hy hx⟩
theorem mul_inM {x y p q r s : Rat} (hx : inI x p q) (hy : inI y r s) : inI (x * y) (mlo p q r s) (mhi p q r s) := (inI_iff (mlo_le_mhi _ _ _ _)).2 (mul_in hx hy)
theorem mlo_tri {m a b c d e f : Rat} : m ≤ mlo a b (mlo c d e f) (mhi c d e f) ↔ ∀ x y z, inI x a b → inI y c d → inI z e f → m ≤ x * (y * z) := by
  rw [le_mlo_all]
  refine ⟨fun h x y z hx hy hz => h _ _ hx (mul_inM hy hz), fun h x t hx ht => ?_⟩
  rw [inI_iff (mlo_le_mhi _ _ _ _)] at ht
  rcases Rat.le_total (a := 0) (b := x) with h0 | h0
  · have h1 : mlo c d e f ≤ t := ht.1
    have h2 := Rat.mul_le_mul_of_nonneg_left h1 h0
    have h3 : m ≤ x * mlo c d e f := by
      unfold mlo
      have k : ∀ u v : Rat, m ≤ x * u → m ≤ x * v → m ≤ x * minQ u v := fun u v hu hv => by unfold minQ; split <;> assumption
      exact k _ _ (k _ _ (k _ _ (h _ _ _ hx (inI_l _ _) (inI_l _ _)) (h _ _ _ hx (inI_l _ _) (inI_r _ _))) (h _ _ _ hx (inI_r _ _) (inI_l _ _))) (h _ _ _ hx (inI_r _ _) (inI_r _ _))
    exact Rat.le_trans h3 h2
  · have h1 : t ≤ mhi c d e f := ht.2
    have h2 := neg_mul_le h1 h0
    have h3 : m ≤ x * mhi c d e f := by
      unfold mhi
      have k : ∀ u v : Rat, m ≤ x * u → m ≤ x * v → m ≤ x * maxQ u v := fun u v hu hv => by unfold maxQ; split <;> assumption
      exact k _ _ (k _ _ (k _ _ (h _ _ _ hx (inI_l _ _) (inI_l _ _)) (h _ _ _ hx (inI_l _ _) (inI_r _ _))) (h _ _ _ hx (inI_r _ _) (inI_l _ _))) (h _ _ _ hx (inI_r _ _) (inI_r _ _))
    rw [Rat.mul_comm t, Rat.mul_comm _ x] at h2
    exact Rat.le_trans h3 h2
theorem mlo_neg (a b c d : Rat) : mlo (-a) (-b) c d = -mhi a b c d := eq_of_lower fun m => by
  have h := mhi_le (m := -m) (a := a) (b := b) (c := c) (d := d)
  rw [le_mlo]; grind
theorem minQ_neg (a b : Rat) : minQ (-a) (-b) = -maxQ a b := eq_of_lower fun m => by
  have h := maxQ_le (m := -m) (a := a) (b := b)
  rw [le_minQ]; grind
theorem maxQ_neg (a b : Rat) : maxQ (-a) (-b) = -minQ a b := eq_of_upper fun m => by
  have h := le_minQ (m := -m) (a := a) (b := b)
  rw [maxQ_le]; grind
theorem inI_neg {x a b : Rat} : inI (-x) (-a) (-b) ↔ inI x a b := by unfold inI; rw [minQ_neg, maxQ_neg]; grind
theorem mhi_tri {m a b c d e f : Rat} : mhi a b (mlo c d e f) (mhi c d e f) ≤ m ↔ ∀ x y z, inI x a b → inI y c d → inI z e f → x * (y * z) ≤ m := by
  have h := mlo_tri (m := -m) (a := -a) (b := -b) (c := c) (d := d) (e := e) (f := f)
  rw [mlo_neg] at h
  have h2 : mhi a b (mlo c d e f) (mhi c d e f) ≤ m ↔ -m ≤ -mhi a b (mlo c d e f) (mhi c d e f) := by grind
  rw [h2, h]
  constructor
  · intro k x y z hx hy hz
    have := k (-x) y z (inI_neg.2 hx) hy hz
    grind
  · intro k x y z hx hy hz
    have := k (-x) y z (by have := inI_neg (x := -x) (a := a) (b := b); rw [Rat.neg_neg] at this; exact this.1 hx) hy hz
    grind
theorem mlo_assoc (a b c d e f : Rat) : mlo a b (mlo c d e f) (mhi c d e f) = mlo (mlo a b c d) (mhi a b c d) e f := eq_of_lower fun m => by
  rw [mlo_comm (mlo a b c d), mlo_tri, mlo_tri]
  constructor
  · intro h x y z hx hy hz; have := h y z x hy hz hx; grind
  · intro h x y z hx hy hz; have := h z x y hz hx hy; grind
theorem mhi_assoc (a b c d e f : Rat) : mhi a b (mlo c d e f) (mhi c d e f) = mhi (mlo a b c d) (mhi a b c d) e f := eq_of_upper fun m => by
  rw [mhi_comm (mlo a b c d), mhi_tri, mhi_tri]
  constructor
  · intro h x y z hx hy hz; have := h y z x hy hz hx; grind
  · intro h x y z hx hy hz; have := h z x y hz hx hy; grind
theorem add_in {x y a b c d : Rat} (hx : inI x a b) (hy : inI y c d) : minQ a b + minQ c d ≤ x + y ∧ x + y ≤ maxQ a b + maxQ c d := by
  unfold inI at *; grind
/-- Multiplication is subdistributive. -/
theorem mlo_sub (a b c d e f : Rat) : mlo a b c d + mlo a b e f ≤ mlo a b (minQ c d + minQ e f) (maxQ c d + maxQ e f) := by
  rw [le_mlo, Rat.mul_add, Rat.mul_add, Rat.mul_add, Rat.mul_add]
  have h1 := (mul_in (inI_l a b) (inI_min c d)).1; have h2 := (mul_in (inI_l a b) (inI_min e f)).1
  have h3 := (mul_in (inI_l a b) (inI_max c d)).1; have h4 := (mul_in (inI_l a b) (inI_max e f)).1
  have h5 := (mul_in (inI_r a b) (inI_min c d)).1; have h6 := (mul_in (inI_r a b) (inI_min e f)).1
  have h7 := (mul_in (inI_r a b) (inI_max c d)).1; have h8 := (mul_in (inI_r a b) (inI_max e f)).1
  refine ⟨?_, ?_, ?_, ?_⟩ <;> grind
theorem mhi_sub (a b c d e f : Rat) : mhi a b (minQ c d + minQ e f) (maxQ c d + maxQ e f) ≤ mhi a b c d + mhi a b e f := by
  rw [mhi_le, Rat.mul_add, Rat.mul_add, Rat.mul_add, Rat.mul_add]
  have h1 := (mul_in (inI_l a b) (inI_min c d)).2; have h2 := (mul_in (inI_l a b) (inI_min e f)).2
  have h3 := (mul_in (inI_l a b) (inI_max c d)).2; have h4 := (mul_in (inI_l a b) (inI_max e f)).2
  have h5 := (mul_in (inI_r a b) (inI_min c d)).2; have h6 := (mul_in (inI_r a b) (inI_min e f)).2
  have h7 := (mul_in (inI_r a b) (inI_max c d)).2; have h8 := (mul_in (inI_r a b) (inI_max e f)).2
  refine ⟨?_, ?_, ?_, ?_⟩ <;> grind
/-- [a, b] is in [c, d], bounds in any order. -/
def subI (a b c d : Rat) : Prop := inI a c d ∧ inI b c d
instance (a b c d : Rat) : Decidable (subI a b c d) := by unfold subI; exact inferInstance
theorem subI_in {x a b c d : Rat} (h : subI a b c d) (hx : inI x a b) : inI x c d := by
  unfold subI inI at *
  have h1 := le_minQ (m := minQ c d) (a := a) (b := b); have h2 := maxQ_le (m := maxQ c d) (a := a) (b := b)
  grind
theorem subI_iff {a b c d : Rat} : subI a b c d ↔ ∀ x, inI x a b → inI x c d := ⟨fun h _ hx => subI_in h hx, fun h => ⟨h _ (inI_l _ _), h _ (inI_r _ _)⟩⟩
theorem subI_refl (a b : Rat) : subI a b a b := ⟨inI_l _ _, inI_r _ _⟩
theorem mul_mono {a b c d p q r s : Rat} (h1 : subI a b c d) (h2 : subI p q r s) : subI (mlo a b p q) (mhi a b p q) (mlo c d r s) (mhi c d r s) := by
  have e1 : mlo c d r s ≤ mlo a b p q := by rw [le_mlo_all]; exact fun x y hx hy => (mul_in (subI_in h1 hx) (subI_in h2 hy)).1
  have e2 : mhi a b p q ≤ mhi c d r s := by rw [mhi_le_all]; exact fun x y hx hy => (mul_in (subI_in h1 hx) (subI_in h2 hy)).2
  have e3 := mlo_le_mhi a b p q
  unfold subI
  rw [inI_iff (mlo_le_mhi _ _ _ _), inI_iff (mlo_le_mhi _ _ _ _)]
  grind
theorem add_mono {a b c d p q r s : Rat} (h1 : subI a b c d) (h2 : subI p q r s) : subI (minQ a b + minQ p q) (maxQ a b + maxQ p q) (minQ c d + minQ r s) (maxQ c d + maxQ r s) := by
  have k1 := (subI_in h1 (inI_min a b)).1; have k2 := (subI_in h1 (inI_max a b)).2
  have k3 := (subI_in h2 (inI_min p q)).1; have k4 := (subI_in h2 (inI_max p q)).2
  have m1 := min_le_max a b; have m2 := min_le_max p q; have m3 := min_le_max c d; have m4 := min_le_max r s
  unfold subI
  rw [inI_iff (by grind), inI_iff (by grind)]
  grind
/-- The hull of two intervals holds the first. -/
theorem hull_l (a b c d : Rat) : subI a b (minQ (minQ a b) (minQ c d)) (maxQ (maxQ a b) (maxQ c d)) := by
  have h1 := minQ_l (minQ a b) (minQ c d); have h2 := maxQ_l (maxQ a b) (maxQ c d)
  have h3 := minQ_l a b; have h4 := minQ_r a b; have h5 := maxQ_l a b; have h6 := maxQ_r a b
  unfold subI
  rw [inI_iff (by grind), inI_iff (by grind)]
  grind
theorem hull_le (a b c d : Rat) : minQ (minQ a b) (minQ c d) ≤ maxQ (maxQ a b) (maxQ c d) := by
  have h1 := minQ_l (minQ a b) (minQ c d); have h2 := maxQ_l (maxQ a b) (maxQ c d)
  have := min_le_max a b
  grind
/-- A step of Horner's scheme over an interval: value · i + c. -/
def ev (a b : Rat) : List Rat → Rat × Rat
  | [] => (0, 0)
  | c :: l => (mlo (ev a b l).1 (ev a b l).2 a b + c, mhi (ev a b l).1 (ev a b l).2 a b + c)
/-- Horner's scheme at a number. -/
def hv (x : Rat) : List Rat → Rat
  | [] => 0
  | c :: l => hv x l * x + c
theorem ev_le (a b : Rat) (l : List Rat) : (ev a b l).1 ≤ (ev a b l).2 := by
  cases l with
  | nil => exact Rat.le_refl
  | cons c l => simp only [ev]; have := mlo_le_mhi (ev a b l).1 (ev a b l).2 a b; grind
theorem ev_in {x a b : Rat} (hx : inI x a b) : ∀ l : List Rat, (ev a b l).1 ≤ hv x l ∧ hv x l ≤ (ev a b l).2
  | [] => ⟨Rat.le_refl, Rat.le_refl⟩
  | c :: l => by
    have h := mul_in ((inI_iff (ev_le a b l)).2 (ev_in hx l)) hx
    simp only [ev, hv]
    grind
theorem ev_mono {a b c d : Rat} (h : subI a b c d) : ∀ l : List Rat, subI (ev a b l).1 (ev a b l).2 (ev c d l).1 (ev c d l).2
  | [] => subI_refl _ _
  | x :: l => by
    have k := mul_mono (ev_mono h l) h
    have k1 := ev_le a b (x :: l); have k2 := ev_le c d (x :: l)
    unfold subI at *
    rw [inI_iff k2, inI_iff k2]
    rw [inI_iff (mlo_le_mhi _ _ _ _), inI_iff (mlo_le_mhi _ _ _ _)] at k
    simp only [ev] at *
    grind
theorem ev_norm (p q : Rat) : ∀ l, ev (minQ p q) (maxQ p q) l = ev p q l
  | [] => rfl
  | c :: l => by
    have h := ev_norm p q l
    have e := ev_le p q l
    simp only [ev, h]
    have h1 := mlo_norm (ev p q l).1 (ev p q l).2 p q; have h2 := mhi_norm (ev p q l).1 (ev p q l).2 p q
    rw [min_of_le e, max_of_le e] at h1 h2
    rw [h1, h2]

theorem rat_pow_add (x : Rat) (m : Nat) : ∀ n : Nat, x ^ (m + n) = x ^ m * x ^ n
  | 0 => by rw [Nat.add_zero, Rat.pow_zero, Rat.mul_one]
  | n + 1 => by rw [← Nat.add_assoc, Rat.pow_succ, rat_pow_add x m n, Rat.pow_succ, Rat.mul_assoc]
theorem rat_inv_neg (y : Rat) : (-y)⁻¹ = -y⁻¹ := by
  by_cases h : y = 0
  · subst h; rw [Rat.neg_zero, Rat.inv_zero, Rat.neg_zero]
  · have h1 := Rat.mul_inv_cancel y h; have h2 := Rat.mul_inv_cancel (-y) (by grind)
    have h3 : (-y)⁻¹ * (y * y⁻¹) = -(y⁻¹ * (-y * (-y)⁻¹)) := by grind
    rw [h1, h2, Rat.mul_one, Rat.mul_one] at h3
    exact h3
theorem mlo_swap (a b c d : Rat) : mlo a b d c = mlo a b c d := eq_of_lower fun m => by rw [le_mlo, le_mlo]; grind
theorem mhi_swap (a b c d : Rat) : mhi a b d c = mhi a b c d := eq_of_upper fun m => by rw [mhi_le, mhi_le]; grind
theorem sq_nonneg (x : Rat) : 0 ≤ x * x := by
  rcases Rat.le_total (a := 0) (b := x) with h | h
  · have := Rat.mul_le_mul_of_nonneg_left h h; grind
  · have := neg_mul_le h h; grind
theorem pow_even (x : Rat) (k : Nat) : 0 ≤ x ^ (2 * k) := by
  have h : x ^ (2 * k) = x ^ k * x ^ k := by rw [Nat.two_mul, rat_pow_add]
  rw [h]; exact sq_nonneg _
theorem mul_nn {a b : Rat} (ha : 0 ≤ a) (hb : 0 ≤ b) : 0 ≤ a * b := by
  have := Rat.mul_le_mul_of_nonneg_left hb ha; grind
theorem pow_odd (x : Rat) (k : Nat) : (0 ≤ x → 0 ≤ x ^ (2 * k + 1)) ∧ (x ≤ 0 → x ^ (2 * k + 1) ≤ 0) := by
  rw [Rat.pow_succ]
  refine ⟨fun h => mul_nn (pow_even x k) h, fun h => ?_⟩
  have := mul_nn (pow_even x k) (b := -x) (by grind)
  grind
theorem pow_zero_pos {n : Nat} (h : 0 < n) : (0 : Rat) ^ n = 0 := by
  obtain ⟨k, rfl⟩ : ∃ k, n = k + 1 := ⟨n - 1, by omega⟩
  rw [Rat.pow_succ, Rat.mul_zero]
/-- The power of an interval: what the program finds .. -/
def plo (a b : Rat) (n : Nat) : Rat := if 0 < n ∧ n % 2 = 0 ∧ a * b < 0 then 0 else minQ (a ^ n) (b ^ n)
def phi (a b : Rat) (n : Nat) : Rat := maxQ (a ^ n) (b ^ n)
theorem minQ_comm (a b : Rat) : minQ a b = minQ b a := eq_of_lower fun m => by rw [le_minQ, le_minQ]; grind
theorem maxQ_comm (a b : Rat) : maxQ a b = maxQ b a := eq_of_upper fun m => by rw [maxQ_le, maxQ_le]; grind
theorem plo_norm (a b : Rat) (n : Nat) : plo (minQ a b) (maxQ a b) n = plo a b n ∧ phi (minQ a b) (maxQ a b) n = phi a b n := by
  rcases min_max a b with ⟨e1, e2⟩ | ⟨e1, e2⟩ <;> rw [e1, e2]
  · exact ⟨rfl, rfl⟩
  · unfold plo phi; rw [minQ_comm, maxQ_comm, Rat.mul_comm]; exact ⟨rfl, rfl⟩
/-- .. is what the reference finds: 0 is inside. -/
theorem plo_in {p q : Rat} {n : Nat} (hn : 0 < n) (h1 : p ≤ 0) (h2 : 0 ≤ q) : plo p q n = minQ (minQ (p ^ n) (q ^ n)) 0 ∧ phi p q n = maxQ (maxQ (p ^ n) (q ^ n)) 0 := by
  unfold plo phi
  rcases Nat.mod_two_eq_zero_or_one n with hp | hp
  · obtain ⟨k, rfl⟩ : ∃ k, n = 2 * k := ⟨n / 2, by omega⟩
    have e1 := pow_even p k; have e2 := pow_even q k
    have hmax : maxQ (p ^ (2 * k)) (q ^ (2 * k)) = maxQ (maxQ (p ^ (2 * k)) (q ^ (2 * k))) 0 := by
      have := maxQ_l (p ^ (2 * k)) (q ^ (2 * k))
      exact eq_of_upper fun m => by rw [maxQ_le (b := 0)]; grind
    have hmin : minQ (minQ (p ^ (2 * k)) (q ^ (2 * k))) 0 = 0 := eq_of_lower fun m => by rw [le_minQ, le_minQ]; grind
    refine ⟨?_, hmax⟩
    rw [hmin]
    by_cases hs : p * q < 0
    · rw [if_pos ⟨hn, hp, hs⟩]
    · rw [if_neg (fun h => hs h.2.2)]
      have h0 : p = 0 ∨ q = 0 := by
        have h5 : p * q = 0 := by
          have := mul_nn (a := -p) (b := q) (by grind) h2
          grind
        exact Rat.mul_eq_zero.1 h5
      rcases h0 with h0 | h0
      · subst h0; rw [pow_zero_pos hn, min_of_le e2]
      · subst h0; rw [pow_zero_pos hn, minQ_comm, min_of_le e1]
  · obtain ⟨k, rfl⟩ : ∃ k, n = 2 * k + 1 := ⟨n / 2, by omega⟩
    have e1 := (pow_odd p k).2 h1; have e2 := (pow_odd q k).1 h2
    rw [if_neg (fun h => by omega)]
    constructor
    · exact eq_of_lower fun m => by simp only [le_minQ]; grind
    · exact eq_of_upper fun m => by simp only [maxQ_le]; grind
theorem plo_out {p q : Rat} {n : Nat} (h : p ≤ q) (h0 : 0 < n → ¬ (p ≤ 0 ∧ 0 ≤ q)) : plo p q n = minQ (p ^ n) (q ^ n) ∧ phi p q n = maxQ (p ^ n) (q ^ n) := by
  refine ⟨?_, rfl⟩
  unfold plo
  rw [if_neg]
  rintro ⟨hn, _, hs⟩
  have := h0 hn
  rcases Rat.le_total (a := p) (b := 0) with hp | hp
  · have hq : q ≤ 0 := by grind
    have := mul_nn (a := -p) (b := -q) (by grind) (by grind)
    grind
  · have := mul_nn hp (b := q) (by grind)
    grind
theorem plo_le_phi (a b : Rat) (n : Nat) : plo a b n ≤ phi a b n := by
  unfold plo phi
  split
  · rename_i h
    obtain ⟨k, rfl⟩ : ∃ k, n = 2 * k := ⟨n / 2, by omega⟩
    have := pow_even a k; have := maxQ_l (a ^ (2 * k)) (b ^ (2 * k)); grind
  · exact min_le_max _ _
theorem sq_hi {x p q : Rat} (h : inI x p q) : x * x ≤ maxQ (p * p) (q * q) := by
  refine mul_hi h h (mhi_le.2 ?_)
  have h1 := maxQ_l (p * p) (q * q); have h2 := maxQ_r (p * p) (q * q)
  have h3 := sq_nonneg (p - q)
  grind
theorem sq_lo {x p q : Rat} (h : inI x p q) (hs : ¬ p * q < 0) : minQ (p * p) (q * q) ≤ x * x := by
  refine mul_lo h h (le_mlo.2 ?_)
  have h1 := minQ_l (p * p) (q * q); have h2 := minQ_r (p * p) (q * q)
  have h5 : minQ (p * p) (q * q) ≤ p * q := by
    rcases Rat.le_total (a := 0) (b := p) with hp | hp <;> rcases Rat.le_total (a := 0) (b := q) with hq | hq
    · rcases Rat.le_total (a := p) (b := q) with e | e
      · have := Rat.mul_le_mul_of_nonneg_left e hp; grind
      · have := Rat.mul_le_mul_of_nonneg_right e hq; grind
    · have := mul_nn hp (b := -q) (by grind)
      have : p * q = 0 := by grind
      rcases Rat.mul_eq_zero.1 this with e | e <;> subst e <;> grind
    · have := mul_nn (a := -p) (by grind) hq
      have : p * q = 0 := by grind
      rcases Rat.mul_eq_zero.1 this with e | e <;> subst e <;> grind
    · rcases Rat.le_total (a := p) (b := q) with e | e
      · have := neg_mul_le e hq; grind
      · have := neg_mul_le e hp; grind
  grind
theorem pow4 (x : Rat) : x ^ 4 = x * x * (x * x) := by
  rw [show (4 : Nat) = 2 * 2 from rfl, Nat.two_mul, rat_pow_add, show (2 : Nat) = 1 + 1 from rfl, rat_pow_add, Rat.pow_succ, Rat.pow_zero, Rat.one_mul]
theorem sq_mono {a b : Rat} (h0 : 0 ≤ a) (h : a ≤ b) : a * a ≤ b * b := by
  have h1 := Rat.mul_le_mul_of_nonneg_left h h0; have h2 := Rat.mul_le_mul_of_nonneg_right h (c := b) (by grind)
  grind
theorem pow4_in {x p q : Rat} (h : inI x p q) : plo p q 4 ≤ x ^ 4 ∧ x ^ 4 ≤ phi p q 4 := by
  unfold plo phi
  rw [pow4, pow4, pow4]
  have e0 := sq_nonneg x; have e1 := sq_nonneg p; have e2 := sq_nonneg q
  constructor
  · by_cases hs : p * q < 0
    · rw [if_pos ⟨by omega, rfl, hs⟩]; exact sq_nonneg _
    · rw [if_neg (fun h => hs h.2.2)]
      have h1 := sq_lo h hs
      have m1 := minQ_l (p * p * (p * p)) (q * q * (q * q)); have m2 := minQ_r (p * p * (p * p)) (q * q * (q * q))
      rcases min_max (p * p) (q * q) with ⟨k1, k2⟩ | ⟨k1, k2⟩ <;> rw [k1] at h1
      · have := sq_mono e1 h1; grind
      · have := sq_mono e2 h1; grind
  · have h1 := sq_hi h
    have m1 := maxQ_l (p * p * (p * p)) (q * q * (q * q)); have m2 := maxQ_r (p * p * (p * p)) (q * q * (q * q))
    rcases min_max (p * p) (q * q) with ⟨k1, k2⟩ | ⟨k1, k2⟩ <;> rw [k2] at h1
    · have := sq_mono e0 h1; grind
    · have := sq_mono e0 h1; grind
theorem pow3 (x : Rat) : x ^ 3 = x * x * x := by
  rw [show (3 : Nat) = 1 + 1 + 1 from rfl, rat_pow_add, rat_pow_add, Rat.pow_succ, Rat.pow_zero, Rat.one_mul]
theorem pow3_mono {a b : Rat} (h : a ≤ b) : a ^ 3 ≤ b ^ 3 := by
  rw [pow3, pow3]
  rcases Rat.le_total (a := 0) (b := a) with ha | ha
  · have h1 := sq_mono ha h
    have h2 := Rat.mul_le_mul_of_nonneg_right h1 (c := a) ha
    have h3 := Rat.mul_le_mul_of_nonneg_left h (c := b * b) (sq_nonneg b)
    grind
  · rcases Rat.le_total (a := 0) (b := b) with hb | hb
    · have h1 := mul_nn (sq_nonneg b) hb; have h2 := mul_nn (sq_nonneg a) (b := -a) (by grind); grind
    · have h1 := sq_mono (a := -b) (b := -a) (by grind) (by grind)
      have h2 := Rat.mul_le_mul_of_nonneg_right h1 (c := -b) (by grind)
      have h3 := Rat.mul_le_mul_of_nonneg_left (a := -b) (b := -a) (c := a * a) (by grind) (sq_nonneg a)
      grind
theorem plo3 (a b : Rat) : plo a b 3 = minQ (a ^ 3) (b ^ 3) := by unfold plo; rw [if_neg (fun h => by omega)]
theorem pow3_sub {a b c d : Rat} (h : subI a b c d) : subI (plo a b 3) (phi a b 3) (plo c d 3) (phi c d 3) := by
  rw [plo3, plo3]; unfold phi subI
  have m1 : minQ (c ^ 3) (d ^ 3) = (minQ c d) ^ 3 ∧ maxQ (c ^ 3) (d ^ 3) = (maxQ c d) ^ 3 := by
    rcases Rat.le_total (a := c) (b := d) with e | e
    · have := pow3_mono e; rw [min_of_le e, max_of_le e, min_of_le this, max_of_le this]; exact ⟨rfl, rfl⟩
    · have := pow3_mono e; rw [minQ_comm, maxQ_comm, minQ_comm c, maxQ_comm c, min_of_le e, max_of_le e, min_of_le this, max_of_le this]; exact ⟨rfl, rfl⟩
  have k : ∀ x, inI x c d → minQ (c ^ 3) (d ^ 3) ≤ x ^ 3 ∧ x ^ 3 ≤ maxQ (c ^ 3) (d ^ 3) := fun x hx => by rw [m1.1, m1.2]; exact ⟨pow3_mono hx.1, pow3_mono hx.2⟩
  rw [inI_iff (min_le_max _ _), inI_iff (min_le_max _ _)]
  have k1 := k a h.1; have k2 := k b h.2
  rcases min_max (a ^ 3) (b ^ 3) with ⟨e1, e2⟩ | ⟨e1, e2⟩ <;> rw [e1, e2]
  · exact ⟨k1, k2⟩
  · exact ⟨k2, k1⟩
theorem inv_pos {x : Rat} (h : 0 < x) : 0 < x⁻¹ := Rat.inv_pos.2 h
theorem inv_anti {a b : Rat} (ha : 0 < a) (h : a ≤ b) : b⁻¹ ≤ a⁻¹ := by
  have hb : 0 < b := by grind
  have h1 := Rat.mul_inv_cancel a (by grind); have h2 := Rat.mul_inv_cancel b (by grind)
  have h3 := inv_pos ha; have h4 := inv_pos hb
  have h5 := Rat.mul_le_mul_of_nonneg_right h (c := a⁻¹ * b⁻¹) (mul_nn (Rat.le_of_lt h3) (Rat.le_of_lt h4))
  have e1 : a * (a⁻¹ * b⁻¹) = b⁻¹ := by rw [← Rat.mul_assoc, h1, Rat.one_mul]
  have e2 : b * (a⁻¹ * b⁻¹) = a⁻¹ := by rw [Rat.mul_comm a⁻¹, ← Rat.mul_assoc, h2, Rat.one_mul]
  rw [e1, e2] at h5
  exact h5
theorem inv_in {x c d : Rat} (h : inI x c d) (hs : 0 < c * d) : inI x⁻¹ c⁻¹ d⁻¹ := by
  have key : ∀ {x c d : Rat}, inI x c d → 0 < c → 0 < d → inI x⁻¹ c⁻¹ d⁻¹ := fun {x c d} h hc hd => by
    unfold inI at h
    rcases Rat.le_total (a := c) (b := d) with e | e
    · rw [min_of_le e, max_of_le e] at h
      have h1 := inv_anti hc h.1; have h2 := inv_anti (by grind) h.2
      have := inI_of_le h2 h1
      unfold inI at *; rw [minQ_comm, maxQ_comm]; exact this
    · rw [minQ_comm, maxQ_comm, min_of_le e, max_of_le e] at h
      exact inI_of_le (inv_anti (by grind) h.2) (inv_anti hd h.1)
  rcases Rat.le_total (a := 0) (b := c) with hc | hc
  · have c0 : 0 < c := by
      rcases Rat.le_iff_lt_or_eq.1 hc with e | e
      · exact e
      · subst e; grind
    have d0 : 0 < d := by
      rcases Rat.le_total (a := d) (b := 0) with e | e
      · have := mul_nn hc (b := -d) (by grind); grind
      · rcases Rat.le_iff_lt_or_eq.1 e with e | e
        · exact e
        · subst e; grind
    exact key h c0 d0
  · have c0 : 0 < -c := by
      rcases Rat.le_iff_lt_or_eq.1 hc with e | e
      · grind
      · subst e; grind
    have d0 : 0 < -d := by
      rcases Rat.le_total (a := 0) (b := d) with e | e
      · have := mul_nn (a := -c) (by grind) e; grind
      · rcases Rat.le_iff_lt_or_eq.1 e with e | e
        · grind
        · subst e; grind
    have := key (inI_neg.2 h) c0 d0
    have e : ∀ y : Rat, (-y)⁻¹ = -y⁻¹ := fun y => rat_inv_neg y
    rw [e, e, e] at this
    exact inI_neg.1 this
theorem cmpQ_le (a b : Rat) : cmpQ a b ≤ 0 ↔ a ≤ b := by
  unfold cmpQ
  by_cases h : a < b
  · rw [if_pos h]; exact ⟨fun _ => Rat.le_of_lt h, fun _ => by omega⟩
  · rw [if_neg h]
    by_cases h2 : b < a
    · rw [if_pos h2]; exact ⟨fun k => by omega, fun k => absurd h2 (Rat.not_lt.2 k)⟩
    · rw [if_neg h2]; exact ⟨fun _ => Rat.not_lt.1 h2, fun _ => by omega⟩
theorem cmpQ_gt (a b : Rat) : cmpQ a b > 0 ↔ b < a := by
  have h := cmpQ_le a b
  rw [← Rat.not_le, ← h]; omega
theorem cmpQ_ge (a b : Rat) : 0 ≤ cmpQ a b ↔ b ≤ a := by
  unfold cmpQ
  by_cases h : a < b
  · rw [if_pos h]; exact ⟨fun k => by omega, fun k => absurd h (Rat.not_lt.2 k)⟩
  · rw [if_neg h]; refine ⟨fun _ => Rat.not_lt.1 h, fun _ => ?_⟩; split <;> omega
theorem cmpQ_lt (a b : Rat) : cmpQ a b < 0 ↔ a < b := by
  have h := cmpQ_ge a b
  rw [← Rat.not_le, ← h]; omega
end Go.Proofs.Ytehhkeenjlpikaa
