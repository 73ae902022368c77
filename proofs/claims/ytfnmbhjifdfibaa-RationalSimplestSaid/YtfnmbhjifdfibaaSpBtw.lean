/- The simplest fraction strictly between two: what rational.between computes, and that it has the least denominator and the least numerator. Plain. -/
import Derived.Test.YtfnmbhjifdfibaaSpRatX
namespace Go.Proofs.Ytfnmbhjifdfibaa
open Go.RowKit
/-- The simplest fraction strictly between n/d and m/f (f = 0: no upper bound), by fuel. -/
def btw : Nat → Nat → Nat → Nat → Nat → Nat × Nat
  | 0, _, _, _, _ => (0, 1)
  | k + 1, n, d, m, f =>
    if f = 0 ∨ (n / d + 1) * f < m then (n / d + 1, 1)
    else ((n / d) * (btw k f (m - n / d * f) d (n % d)).1 + (btw k f (m - n / d * f) d (n % d)).2, (btw k f (m - n / d * f) d (n % d)).1)
theorem btw_spec : ∀ (k n d m f : Nat), d + f ≤ k → 0 < d → n * f < m * d →
    (n * (btw k n d m f).2 < (btw k n d m f).1 * d ∧ (btw k n d m f).1 * f < m * (btw k n d m f).2 ∧ 0 < (btw k n d m f).2) ∧
    ∀ a b : Nat, 0 < b → n * b < a * d → a * f < m * b → (btw k n d m f).2 ≤ b ∧ (btw k n d m f).1 ≤ a := by
  intro k
  induction k with
  | zero => intro n d m f h hd; omega
  | succ k ih =>
    intro n d m f hk hd hlt
    have hn := Nat.div_add_mod n d
    have hr := Nat.mod_lt n hd
    obtain ⟨q, hq⟩ : ∃ q, q = n / d := ⟨_, rfl⟩
    obtain ⟨r, hrr⟩ : ∃ r, r = n % d := ⟨_, rfl⟩
    rw [← hq, ← hrr] at hn
    rw [← hrr] at hr
    unfold btw
    rw [← hq, ← hrr]
    clear hq hrr
    by_cases hc : f = 0 ∨ (q + 1) * f < m
    · rw [if_pos hc]
      dsimp only
      refine ⟨⟨?_, ?_, by omega⟩, ?_⟩
      · rw [Nat.mul_one, Nat.add_mul, Nat.one_mul, Nat.mul_comm q d]; omega
      · rw [Nat.mul_one]
        rcases hc with h | h
        · subst h; rw [Nat.mul_zero]
          rcases Nat.eq_zero_or_pos m with h0 | h0
          · subst h0; simp at hlt
          · exact h0
        · exact h
      · intro a b hb h1 _
        refine ⟨hb, ?_⟩
        rcases Nat.lt_or_ge q a with h | h
        · exact h
        · have h2 : a * d ≤ q * d := Nat.mul_le_mul_right d h
          have h3 : n * 1 ≤ n * b := Nat.mul_le_mul_left n hb
          rw [Nat.mul_comm q d] at h2
          omega
    · rw [if_neg hc]
      dsimp only
      have hf : 0 < f := by rcases Nat.eq_zero_or_pos f with h | h; exact absurd (.inl h) hc; exact h
      have hm : m ≤ (q + 1) * f := Nat.le_of_not_lt (fun h => hc (.inr h))
      rw [Nat.add_mul, Nat.one_mul] at hm
      have hqf : q * f < m := by
        rcases Nat.lt_or_ge (q * f) m with h | h
        · exact h
        · have h2 : m * d ≤ q * f * d := Nat.mul_le_mul_right d h
          have h3 : q * f * d = d * q * f := by rw [Nat.mul_comm (q * f) d, Nat.mul_assoc]
          have h4 : n * f = (d * q + r) * f := by rw [hn]
          rw [Nat.add_mul] at h4
          omega
      have h5 : f * r < d * (m - q * f) := by
        rw [Nat.mul_sub]
        have h4 : n * f = (d * q + r) * f := by rw [hn]
        rw [Nat.add_mul, Nat.mul_comm r f] at h4
        have h6 : d * (q * f) = d * q * f := (Nat.mul_assoc _ _ _).symm
        have h7 : m * d = d * m := Nat.mul_comm _ _
        omega
      obtain ⟨⟨i1, i2, i3⟩, i4⟩ := ih f (m - q * f) d r (by omega) (by omega) h5
      generalize (btw k f (m - q * f) d r).1 = p at *
      generalize (btw k f (m - q * f) d r).2 = s at *
      have hp : 0 < p := by
        rcases Nat.eq_zero_or_pos p with h | h
        · subst h; simp at i1
        · exact h
      refine ⟨⟨?_, ?_, hp⟩, ?_⟩
      · have h8 : n * p = (d * q + r) * p := by rw [hn]
        rw [Nat.add_mul] at h8
        have h9 : (q * p + s) * d = d * q * p + s * d := by rw [Nat.add_mul, Nat.mul_comm (q * p) d, Nat.mul_assoc]
        have h10 : p * r = r * p := Nat.mul_comm _ _
        have h11 : d * s = s * d := Nat.mul_comm _ _
        omega
      · have h8 : (q * p + s) * f = q * f * p + f * s := by rw [Nat.add_mul, Nat.mul_comm s f, Nat.mul_right_comm]
        have h9 : p * (m - q * f) = m * p - q * f * p := by rw [Nat.mul_comm p, Nat.sub_mul]
        have h10 : q * f * p ≤ m * p := Nat.mul_le_mul_right p (Nat.le_of_lt hqf)
        omega
      · intro a b hb h1 h2
        have h3 : q * b < a := by
          rcases Nat.lt_or_ge (q * b) a with h | h
          · exact h
          · have h4 : a * d ≤ q * b * d := Nat.mul_le_mul_right d h
            have h6 : n * b = (d * q + r) * b := by rw [hn]
            rw [Nat.add_mul] at h6
            have h7 : q * b * d = d * q * b := by rw [Nat.mul_comm (q * b) d, Nat.mul_assoc]
            omega
        obtain ⟨c, hc'⟩ : ∃ c, a = q * b + c := ⟨a - q * b, by omega⟩
        subst hc'
        have hc0 : 0 < c := by omega
        obtain ⟨j1, j2⟩ := i4 b c hc0 (by
          have h8 : (q * b + c) * f = q * f * b + f * c := by rw [Nat.add_mul, Nat.mul_comm c f, Nat.mul_right_comm]
          have h9 : b * (m - q * f) = m * b - q * f * b := by rw [Nat.mul_comm b, Nat.sub_mul]
          omega) (by
          have h6 : n * b = (d * q + r) * b := by rw [hn]
          rw [Nat.add_mul] at h6
          have h9 : (q * b + c) * d = d * q * b + d * c := by rw [Nat.add_mul, Nat.mul_comm (q * b) d, Nat.mul_assoc, Nat.mul_comm c d]
          have h10 : b * r = r * b := Nat.mul_comm _ _
          omega)
        exact ⟨j2, by have := Nat.mul_le_mul_left q j2; omega⟩
end Go.Proofs.Ytfnmbhjifdfibaa
