/- Plain laws for IntervalSets: subsets and hulls. -/
import Derived.Test.YtehhkeenjlpikaaGreatSeLaw6
import Derived.Test.YtehhkeenjlpikaaGreatSeIvD
import Derived.Test.YtehhkeenjlpikaaGreatSeOpenV
import Derived.Test.YtehhkeenjlpikaaGreatSePutI
import Derived.Test.YtehhkeenjlpikaaGreatSeJvE
namespace Go.Proofs.YtehhkeenjlpikaaGreat
open Go.RowKit
theorem within_b {w : World} {N : Nat} {s1 s2 s3 s4 : Bool} {A1 B1 A2 B2 A3 B3 A4 B4 : Option Addr} {c1 d1 L1 M1 c2 d2 L2 M2 c3 d3 L3 M3 c4 d4 L4 M4 : Nat} {q1 q2 q3 q4 : Rat} (h1 : RV w s1 A1 c1 L1 B1 d1 M1 N q1) (h2 : RV w s2 A2 c2 L2 B2 d2 M2 N q2) (h3 : RV w s3 A3 c3 L3 B3 d3 M3 N q3) (h4 : RV w s4 A4 c4 L4 B4 d4 M4 N q4) (hN : N < 48) {b : Bool} (e : decide (subI q1 q2 q3 q4) = b) :
    Calls Tryz.prog 38 #[Value.agg #[Value.bool s1, Value.slice A1 L1 c1, Value.slice B1 M1 d1, Value.bool s2, Value.slice A2 L2 c2, Value.slice B2 M2 d2], Value.agg #[Value.bool s3, Value.slice A3 L3 c3, Value.slice B3 M3 d3, Value.bool s4, Value.slice A4 L4 c4, Value.slice B4 M4 d4]] w fun e w' => e = .returned (.bool b) ∧ Ext w w' := by rw [← e]; exact iwithin_r h1 h2 h3 h4 hN
theorem sub_dec {a b c d : Rat} (h : minQ c d ≤ minQ a b ∧ minQ a b ≤ maxQ c d) (i : Decidable (minQ c d ≤ maxQ a b ∧ maxQ a b ≤ maxQ c d)) : @decide _ i = decide (subI a b c d) := by
  have k : (minQ c d ≤ maxQ a b ∧ maxQ a b ≤ maxQ c d) ↔ subI a b c d := by
    unfold subI inI
    rcases min_max a b with ⟨e1, e2⟩ | ⟨e1, e2⟩ <;> rw [e2] <;> rw [e1] at h
    · exact ⟨fun h2 => ⟨h, h2⟩, fun h2 => h2.2⟩
    · exact ⟨fun h2 => ⟨h2, h⟩, fun h2 => h2.1⟩
  by_cases h5 : subI a b c d
  · rw [decide_eq_true h5, decide_eq_true (k.2 h5)]
  · rw [decide_eq_false h5, decide_eq_false (fun h6 => h5 (k.1 h6))]
theorem sub_dec_no {a b c d : Rat} (h : ¬ (minQ c d ≤ minQ a b ∧ minQ a b ≤ maxQ c d)) : decide (subI a b c d) = false := by
  refine decide_eq_false fun h2 => h ?_
  unfold subI inI at h2
  rcases min_max a b with ⟨e1, e2⟩ | ⟨e1, e2⟩ <;> rw [e1]
  · exact h2.1
  · exact h2.2
theorem hull_lo (a b c d : Rat) : minQ (minQ (minQ (minQ a b) (maxQ a b)) (minQ c d)) (maxQ c d) = minQ (minQ a b) (minQ c d) := by
  refine eq_of_lower fun m => ?_
  have h1 := min_le_max a b
  have h2 := min_le_max c d
  simp only [le_minQ]
  constructor
  · intro h; exact ⟨⟨h.1.1.1.1, h.1.1.1.2⟩, h.1.2⟩
  · intro h
    have h5 : m ≤ minQ a b := le_minQ.2 h.1
    have h6 : m ≤ minQ c d := le_minQ.2 h.2
    exact ⟨⟨⟨h.1, Rat.le_trans h5 h1⟩, h.2⟩, Rat.le_trans h6 h2⟩
theorem hull_hi (a b c d : Rat) : maxQ (maxQ (maxQ (minQ a b) (maxQ a b)) (minQ c d)) (maxQ c d) = maxQ (maxQ a b) (maxQ c d) := by
  refine eq_of_upper fun m => ?_
  have h1 := min_le_max a b
  have h2 := min_le_max c d
  simp only [maxQ_le]
  constructor
  · intro h; exact ⟨h.1.1.2, h.2⟩
  · intro h
    have h5 : maxQ a b ≤ m := maxQ_le.2 h.1
    have h6 : maxQ c d ≤ m := maxQ_le.2 h.2
    exact ⟨⟨⟨Rat.le_trans h1 h5, h.1⟩, Rat.le_trans h2 h6⟩, h.2⟩
end Go.Proofs.YtehhkeenjlpikaaGreat
