/- The simplest fraction by denominators: plain laws. -/
import Derived.Test.YtfnmbhjifdfibaaSpSimp
namespace Go.Proofs.Ytfnmbhjifdfibaa
open Go.RowKit
/-- The least numerator above a * d. -/
def nup (a : Rat) (d : Nat) : Int := a.num * (d : Int) / (a.den : Int) + 1
theorem nup_above {a : Rat} {d : Nat} (hd : 0 < d) : a < mkRat (nup a d) d := by
  rw [mkRat_above hd]
  exact Int.lt_ediv_add_one_mul_self _ (by have := a.den_pos; omega)
theorem nup_least {a : Rat} {z : Int} {d : Nat} (h : a.num * (d : Int) < z * a.den) : nup a d ≤ z := by
  have h1 : a.num * (d : Int) / (a.den : Int) < z := Int.ediv_lt_of_lt_mul (by have := a.den_pos; omega) h
  unfold nup
  omega
theorem IsSimp.not_below {a b q : Rat} (hq : IsSimp a b q) {d : Nat} (hd : 0 < d) (hlt : d < q.den) : ¬ mkRat (nup a d) d < b := fun h => by
  have h1 := (hq.least _ (nup_above hd) h).1
  have h2 := rat_den_le (x := nup a d) hd
  omega
theorem IsSimp.num_ge {a b q : Rat} (hq : IsSimp a b q) : nup a q.den ≤ q.num := by
  have h := hq.lo
  rw [Rat.lt_iff] at h
  exact nup_least h
theorem IsSimp.at_den {a b q : Rat} (hq : IsSimp a b q) : mkRat (nup a q.den) q.den < b := by
  refine ratLeLt (Rat.not_lt.1 fun h => ?_) hq.hi
  have h2 := (mkRat_above (a := q) (x := nup a q.den) q.den_pos).1 h
  have h3 := hq.num_ge
  have h4 : nup a q.den * (q.den : Int) ≤ q.num * (q.den : Int) := Int.mul_le_mul_of_nonneg_right h3 (Int.natCast_nonneg _)
  omega
theorem IsSimp.up_pos {a b q : Rat} (hq : IsSimp a b q) (hn : 0 < nup a q.den) : mkRat (nup a q.den) q.den = q := by
  have h1 := (hq.least _ (nup_above q.den_pos) hq.at_den).2
  have h2 := rat_num_le (x := nup a q.den) q.den_pos
  have h3 := hq.num_ge
  have h4 : nup a q.den = q.num := by omega
  rw [h4, Rat.mkRat_self]
theorem IsSimp.up_neg {a b q : Rat} (hq : IsSimp a b q) (hn : nup a q.den ≤ 0) (h0 : ¬ (a < 0 ∧ 0 < b)) {x : Int} {y : Nat} (hy : 0 < y) (hb : b = mkRat x y) {up : Int} (h1 : up * (y : Int) < x * q.den) (h2 : ∀ z : Int, z * (y : Int) < x * q.den → z ≤ up) :
    mkRat up q.den = q := by
  have hd := q.den_pos
  have ha : a < 0 := by
    have h3 := nup_above (a := a) hd
    have h4 : ¬ 0 < mkRat (nup a q.den) q.den := fun h => by have := (rat_pos hd).1 h; omega
    rcases Rat.le_iff_lt_or_eq.1 (Rat.not_lt.1 h4) with h | h
    · exact ratLtTrans h3 h
    · rwa [h] at h3
  have hb0 : ¬ 0 < b := fun h => h0 ⟨ha, h⟩
  have hx : x ≤ 0 := by
    rcases Int.lt_or_le 0 x with h | h
    · exact absurd (by rw [hb]; exact (rat_pos hy).2 h) hb0
    · exact h
  have h5 : x * (q.den : Int) ≤ 0 := Int.mul_nonpos_of_nonpos_of_nonneg hx (Int.natCast_nonneg _)
  have hup : up < 0 := by
    rcases Int.lt_or_le up 0 with h | h
    · exact h
    · have h6 : 0 ≤ up * (y : Int) := Int.mul_nonneg h (Int.natCast_nonneg _)
      omega
  have h6 : q.num * (y : Int) < x * q.den := by
    have h7 := hq.hi
    rw [hb, ← Rat.mkRat_self q, rat_lt hd hy] at h7
    exact h7
  have h7 := h2 _ h6
  have h8 : mkRat up q.den < b := by rw [hb, rat_lt hd hy]; exact h1
  have h9 : a < mkRat up q.den := by
    refine Rat.not_le.1 fun h => ?_
    have h10 : mkRat up q.den < q := ratLeLt h hq.lo
    have h11 := (mkRat_below hd).1 h10
    have h12 : q.num * (q.den : Int) ≤ up * (q.den : Int) := Int.mul_le_mul_of_nonneg_right h7 (Int.natCast_nonneg _)
    omega
  have h10 := (hq.least _ h9 h8).2
  have h11 := rat_num_le (x := up) hd
  have h12 : up = q.num := by omega
  rw [h12, Rat.mkRat_self]
/-- The greatest integer below x / y, by the quotient that is rounded down. -/
theorem below_floor {x : Int} {y : Nat} (hy : 0 < y) {up : Int} (h : up = if x % (y : Int) = 0 then x / (y : Int) - 1 else x / (y : Int)) : up * (y : Int) < x ∧ ∀ z : Int, z * (y : Int) < x → z ≤ up := by
  have h1 := Int.mul_ediv_add_emod x (y : Int)
  have h2 := Int.emod_nonneg x (show (y : Int) ≠ 0 by omega)
  have h3 := Int.emod_lt_of_pos x (show (0 : Int) < (y : Int) by omega)
  have key : ∀ z : Int, z * (y : Int) < x → z ≤ x / (y : Int) := fun z hz => by
    refine Int.le_ediv_of_mul_le (by omega) (by omega)
  have hc : (y : Int) * (x / (y : Int)) = x / (y : Int) * (y : Int) := Int.mul_comm _ _
  by_cases h0 : x % (y : Int) = 0
  · rw [if_pos h0] at h
    subst h
    refine ⟨by rw [Int.sub_mul, Int.one_mul]; omega, fun z hz => ?_⟩
    have h5 := key z hz
    rcases Int.lt_or_eq_of_le h5 with h6 | h6
    · omega
    · rw [h6] at hz; omega
  · rw [if_neg h0] at h
    subst h
    exact ⟨by omega, key⟩
end Go.Proofs.Ytfnmbhjifdfibaa
