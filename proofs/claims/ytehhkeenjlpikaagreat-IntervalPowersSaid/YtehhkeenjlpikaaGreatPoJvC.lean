/- The product of two intervals of the reference. -/
import Derived.Test.YtehhkeenjlpikaaGreatPoJvB
import Derived.Deep.RegionHeldLaw
import Derived.Deep.LoopGhost
import Derived.Deep.QuietTactic
import Derived.BigQuiet
namespace Go.Proofs.YtehhkeenjlpikaaGreat
open Go.RowKit
end Go.Proofs.YtehhkeenjlpikaaGreat
