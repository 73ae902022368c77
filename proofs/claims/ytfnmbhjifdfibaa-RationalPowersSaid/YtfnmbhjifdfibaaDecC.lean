/- Contracts of package decimal, third part: FormatBase, Digits. -/
import Derived.Test.YtfnmbhjifdfibaaDecB
namespace Go.Proofs.Ytfnmbhjifdfibaa
open Go.RowKit
theorem fmt_len (x : Int) : (fmtL 10 x).length = (fmtL 10 (x.natAbs : Int)).length + (if x < 0 then 1 else 0) := by
  rw [fmtL_eq, fmtL_eq, List.length_append, List.length_append, Int.natAbs_natCast, if_neg (show ¬ ((x.natAbs : Int) < 0) by omega)]
  split <;> simp
  omega
theorem fmt_pos (x : Int) : 0 < (fmtL 10 x).length := by
  rw [fmtL_eq, List.length_append, List.length_reverse, List.length_map]
  have h := (lead_digs1 (b := 10) (by omega) x.natAbs).1
  have h2 : 0 < (digs1 10 x.natAbs).length := by
    rcases Nat.eq_zero_or_pos (digs1 10 x.natAbs).length with h3 | h3
    · exact absurd (by rw [List.eq_nil_of_length_eq_zero h3]; rfl) h
    · exact h3
  omega
theorem fmt_le {b : Nat} (hb : 2 ≤ b) (x : Int) : (fmtL b x).length ≤ 32 * dl x.natAbs + 2 := by
  have h1 := digs_len (X := x.natAbs) hb
  have h2 : (digs1 b x.natAbs).length ≤ 32 * dl x.natAbs + 1 := by
    unfold digs1
    split
    · simp
    · omega
  rw [fmtL_eq, List.length_append, List.length_reverse, List.length_map]
  split <;> simp <;> omega
theorem fmt_first {t : ByteArray} {x : Int} (h : bs t = fmtL 10 x) (h0 : 0 < t.size) : ((t[0].toNat : Int) == 45) = decide (x < 0) := by
  have h1 := bs_get? h0
  rw [h] at h1
  rw [Bool.eq_iff_iff, beq_iff_eq, decide_eq_true_iff]
  by_cases hx : x < 0
  · rw [fmtL_eq, if_pos hx] at h1
    simp at h1
    omega
  · rw [fmtL_eq, if_neg hx, List.nil_append] at h1
    refine ⟨fun h2 => ?_, fun h2 => absurd h2 hx⟩
    have h3 : t[0].toNat = 45 := by omega
    rw [h3] at h1
    cases hl : ((digs1 10 x.natAbs).map sym).reverse with
    | nil => rw [hl] at h1; cases h1
    | cons y ys =>
      rw [hl] at h1
      injection h1 with h1
      subst h1
      exact absurd hl (no_minus _ _)
end Go.Proofs.Ytfnmbhjifdfibaa
