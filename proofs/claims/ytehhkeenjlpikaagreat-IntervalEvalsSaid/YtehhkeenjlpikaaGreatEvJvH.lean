/- Powers of an interval of the reference. -/
import Derived.Test.YtehhkeenjlpikaaGreatEvJvG
import Derived.Deep.RegionHeldLaw
import Derived.Deep.LoopGhost
import Derived.Deep.QuietTactic
import Derived.BigQuiet
namespace Go.Proofs.YtehhkeenjlpikaaGreat
open Go.RowKit
end Go.Proofs.YtehhkeenjlpikaaGreat
