/- The simplest fraction strictly between two fractions: plain laws (it is one alone, its negative, smaller intervals, its bound). -/
import Derived.Test.YtfnmbhjifdfibaaSpBtw
namespace Go.Proofs.Ytfnmbhjifdfibaa
open Go.RowKit
theorem ratLtTrans {a b c : Rat} (h1 : a < b) (h2 : b < c) : a < c := Rat.not_le.1 fun h => Rat.not_le.2 h2 (Rat.le_trans h (Rat.le_of_lt h1))
theorem ratLeLt {a b c : Rat} (h1 : a ≤ b) (h2 : b < c) : a < c := Rat.not_le.1 fun h => Rat.not_le.2 h2 (Rat.le_trans h h1)
/-- q is the simplest fraction strictly between a and b. -/
structure IsSimp (a b q : Rat) : Prop where
  lo : a < q
  hi : q < b
  least : ∀ r : Rat, a < r → r < b → q.den ≤ r.den ∧ q.num.natAbs ≤ r.num.natAbs
theorem rat_neg0 (q : Rat) : q < 0 ↔ q.num < 0 := by rw [Rat.lt_iff]; show _ * (1 : Int) < (0 : Int) * _ ↔ _; rw [Int.zero_mul, Int.mul_one]
theorem rat_pos0 (q : Rat) : 0 < q ↔ 0 < q.num := by rw [Rat.lt_iff]; show (0 : Int) * _ < _ * (1 : Int) ↔ _; rw [Int.zero_mul, Int.mul_one]
theorem IsSimp.unique {a b p q : Rat} (h1 : IsSimp a b p) (h2 : IsSimp a b q) : p = q := by
  obtain ⟨d1, n1⟩ := h1.least q h2.lo h2.hi
  obtain ⟨d2, n2⟩ := h2.least p h1.lo h1.hi
  by_cases h : p.num = q.num
  · exact Rat.ext h (by omega)
  · exfalso
    have h0 : a < 0 ∧ 0 < b := by
      rcases Int.lt_or_gt_of_ne (show p.num ≠ 0 by omega) with h3 | h3
      · exact ⟨ratLtTrans h1.lo ((rat_neg0 _).2 h3), ratLtTrans ((rat_pos0 _).2 (by omega)) h2.hi⟩
      · exact ⟨ratLtTrans h2.lo ((rat_neg0 _).2 (by omega)), ratLtTrans ((rat_pos0 _).2 h3) h1.hi⟩
    have h5 := (h1.least 0 h0.1 h0.2).2
    rw [show (0 : Rat).num = 0 from rfl] at h5
    omega
theorem IsSimp.neg {a b q : Rat} (h : IsSimp a b q) : IsSimp (-b) (-a) (-q) := by
  refine ⟨Rat.neg_lt_neg h.hi, Rat.neg_lt_neg h.lo, fun r h1 h2 => ?_⟩
  have h3 := h.least (-r) (by rw [← Rat.neg_neg a]; exact Rat.neg_lt_neg h2) (by rw [← Rat.neg_neg b]; exact Rat.neg_lt_neg h1)
  rw [Rat.neg_den, Rat.neg_num, Int.natAbs_neg] at h3
  rw [Rat.neg_den, Rat.neg_num, Int.natAbs_neg]
  exact h3
theorem isSimp_zero {a b : Rat} (h1 : a < 0) (h2 : 0 < b) : IsSimp a b 0 :=
  ⟨h1, h2, fun r _ _ => ⟨by have := r.den_pos; show 1 ≤ _; omega, by show (0 : Int).natAbs ≤ _; exact Nat.zero_le _⟩⟩
theorem mkRat_below {a : Rat} {x : Int} {y : Nat} (hy : 0 < y) : mkRat x y < a ↔ x * a.den < a.num * y := by
  have h := rat_lt (x := x) (y := y) (z := a.num) (t := a.den) hy a.den_pos
  rwa [Rat.mkRat_self] at h
theorem mkRat_above {a : Rat} {x : Int} {y : Nat} (hy : 0 < y) : a < mkRat x y ↔ a.num * y < x * a.den := by
  have h := rat_lt (x := a.num) (y := a.den) (z := x) (t := y) a.den_pos hy
  rwa [Rat.mkRat_self] at h
/-- The mediant lies between, so the simplest fraction is not greater than it. -/
theorem IsSimp.bound {a b q : Rat} (h : IsSimp a b q) : q.den ≤ a.den + b.den ∧ q.num.natAbs ≤ a.num.natAbs + b.num.natAbs := by
  have hab := ratLtTrans h.lo h.hi
  rw [Rat.lt_iff] at hab
  have ha := a.den_pos
  have hb := b.den_pos
  have hy : 0 < a.den + b.den := by omega
  have h1 := h.least (mkRat (a.num + b.num) (a.den + b.den)) ((mkRat_above hy).2 (by rw [Int.add_mul, Int.natCast_add, Int.mul_add]; omega)) ((mkRat_below hy).2 (by rw [Int.add_mul, Int.natCast_add, Int.mul_add]; omega))
  have h2 := rat_den_le (x := a.num + b.num) hy
  have h3 := rat_num_le (x := a.num + b.num) hy
  omega
/-- A fraction by parts that no fraction between a and b goes below is in lowest terms, and the simplest. -/
theorem isSimp_parts {a b : Rat} {x : Int} {y : Nat} (hy : 0 < y) (h1 : a < mkRat x y) (h2 : mkRat x y < b) (h : ∀ r : Rat, a < r → r < b → y ≤ r.den ∧ x.natAbs ≤ r.num.natAbs) :
    IsSimp a b (mkRat x y) ∧ (mkRat x y).num = x ∧ (mkRat x y).den = y := by
  have h3 := h _ h1 h2
  have h4 := rat_den_le (x := x) hy
  have h5 := rat_num_le (x := x) hy
  have hs := rat_sign (x := x) hy
  have e1 : (mkRat x y).den = y := by omega
  have e2 : (mkRat x y).num = x := by
    have : (mkRat x y).num.natAbs = x.natAbs := by omega
    rw [← Int.sign_mul_natAbs (mkRat x y).num, hs, this, Int.sign_mul_natAbs]
  exact ⟨⟨h1, h2, fun r h6 h7 => by rw [e1, e2]; exact h r h6 h7⟩, e2, e1⟩
/-- What rational.between computes is the simplest fraction, in lowest terms. -/
theorem isSimp_btw {a b : Rat} {k n m : Nat} (hn : a.num = n) (hm : b.num = m) (hab : a < b) (hk : a.den + b.den ≤ k) :
    ∃ q, IsSimp a b q ∧ q.num = ((btw k n a.den m b.den).1 : Int) ∧ q.den = (btw k n a.den m b.den).2 := by
  have h0 := hab
  rw [Rat.lt_iff, hn, hm] at h0
  obtain ⟨⟨i1, i2, i3⟩, i4⟩ := btw_spec k n a.den m b.den hk a.den_pos (by exact_mod_cast h0)
  generalize (btw k n a.den m b.den).1 = p at *
  generalize (btw k n a.den m b.den).2 = s at *
  have h := isSimp_parts (a := a) (b := b) (x := (p : Int)) (y := s) i3 ((mkRat_above i3).2 (by rw [hn]; exact_mod_cast i1)) ((mkRat_below i3).2 (by rw [hm]; exact_mod_cast i2)) (fun r h1 h2 => by
    rw [Rat.lt_iff, hn] at h1
    rw [Rat.lt_iff, hm] at h2
    have hr : 0 < r.num := by
      rcases Int.lt_or_le 0 r.num with h | h
      · exact h
      · have h5 : r.num * (a.den : Int) ≤ 0 := Int.mul_nonpos_of_nonpos_of_nonneg h (Int.natCast_nonneg _)
        have h6 : (0 : Int) ≤ (n : Int) * (r.den : Int) := Int.mul_nonneg (Int.natCast_nonneg _) (Int.natCast_nonneg _)
        omega
    obtain ⟨t, ht⟩ : ∃ t : Nat, r.num = (t : Int) := ⟨r.num.natAbs, by omega⟩
    rw [ht] at h1 h2
    have := i4 t r.den r.den_pos (by exact_mod_cast h1) (by exact_mod_cast h2)
    rw [ht]
    simp only [Int.natAbs_natCast]
    exact ⟨this.1, this.2⟩)
  exact ⟨_, h.1, h.2.1, h.2.2⟩
theorem isSimp_ex {a b : Rat} (hab : a < b) : ∃ q, IsSimp a b q := by
  by_cases h1 : 0 ≤ a.num
  · have h2 : 0 ≤ b.num := by
      have h0 := hab
      rw [Rat.lt_iff] at h0
      have h5 : (0 : Int) ≤ a.num * (b.den : Int) := Int.mul_nonneg h1 (Int.natCast_nonneg _)
      rcases Int.lt_or_le b.num 0 with h | h
      · have h6 : b.num * (a.den : Int) ≤ 0 := Int.mul_nonpos_of_nonpos_of_nonneg (by omega) (Int.natCast_nonneg _)
        omega
      · exact h
    obtain ⟨q, h, _⟩ := isSimp_btw (n := a.num.natAbs) (m := b.num.natAbs) (by omega) (by omega) hab (Nat.le_refl _)
    exact ⟨q, h⟩
  · by_cases h2 : 0 < b.num
    · exact ⟨0, isSimp_zero ((rat_neg0 _).2 (by omega)) ((rat_pos0 _).2 h2)⟩
    · obtain ⟨q, h, _⟩ := isSimp_btw (a := -b) (b := -a) (n := b.num.natAbs) (m := a.num.natAbs) (by rw [Rat.neg_num]; omega) (by rw [Rat.neg_num]; omega) (Rat.neg_lt_neg hab) (Nat.le_refl _)
      have h3 := h.neg
      rw [Rat.neg_neg, Rat.neg_neg] at h3
      exact ⟨_, h3⟩
end Go.Proofs.Ytfnmbhjifdfibaa
