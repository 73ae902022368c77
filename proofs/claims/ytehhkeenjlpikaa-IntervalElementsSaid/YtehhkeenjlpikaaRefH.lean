/- Contracts of package cylinderref04: the value of a sign, the text of an integer; cylinderref02.Small. -/
import Derived.Test.YtehhkeenjlpikaaDecX
import Derived.Test.YtehhkeenjlpikaaRefY
namespace Go.Proofs.Ytehhkeenjlpikaa
open Go.RowKit
/-- The value of a sign as a digit of a base, or -1. -/
def vl (b c : Nat) : Int := if dg c < b then (dg c : Int) else -1
end Go.Proofs.Ytehhkeenjlpikaa
