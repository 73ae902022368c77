/- Small facts for the statements of chapter 02. -/
import Derived.Test.YtfnmbhjifdfibaaLaw2
import Derived.Test.YtfnmbhjifdfibaaKept
namespace Go.Proofs.Ytfnmbhjifdfibaa
open Go.RowKit
theorem dlz_add (x y : Int) : dl (x + y).natAbs ≤ max (dl x.natAbs) (dl y.natAbs) + 1 :=
  Nat.le_trans (dl_mono (show (x + y).natAbs ≤ x.natAbs + y.natAbs by omega)) (dl_add _ _)
theorem dlz_mul (x y : Int) : dl (x * y).natAbs ≤ dl x.natAbs + dl y.natAbs := by rw [Int.natAbs_mul]; exact dl_mul _ _
theorem same_yes {w : World} {s1 s2 : Bool} {A1 A2 : Option Addr} {c1 c2 L1 L2 : Nat} {x y : Int} (h1 : ZV w s1 A1 c1 L1 x) (h2 : ZV w s2 A2 c2 L2 y) (e : x = y) :
    Calls Try.prog 34 #[.agg #[.bool s1, .slice A1 L1 c1], .agg #[.bool s2, .slice A2 L2 c2]] w fun e w' => e = .returned (.bool true) ∧ Ext w w' := by
  subst e
  have := same_z h1 h2
  rwa [beq_self_eq_true] at this
end Go.Proofs.Ytfnmbhjifdfibaa
