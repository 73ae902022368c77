/- rational.Pow beyond the limit; small facts for RationalPowers. -/
import Derived.Test.YtehhkeenjlpikaaElPowB
import Derived.Deep.RegionHeldLaw
import Derived.Deep.LoopGhost
import Derived.Deep.QuietTactic
import Derived.BigQuiet
namespace Go.Proofs.Ytehhkeenjlpikaa
open Go.RowKit
theorem far3 : 16777216 < max (bl ((3 : Int) : Rat).num.natAbs) (bl ((3 : Int) : Rat).den) * 16777216 := by
  have h : 2 ≤ bl 3 := by
    rcases Nat.lt_or_ge (bl 3) 2 with h | h
    · have h5 := lt_pow_len (B := 2) (by omega) 3
      have h6 : 2 ^ (digs 2 3).length ≤ 2 ^ 1 := Nat.pow_le_pow_right (by omega) (by unfold bl at h; omega)
      omega
    · exact h
  have h2 : bl 3 ≤ max (bl ((3 : Int) : Rat).num.natAbs) (bl ((3 : Int) : Rat).den) := Nat.le_max_left _ _
  omega
end Go.Proofs.Ytehhkeenjlpikaa
