import Derived.Test.YtehhkeenjlpikaaGreatQuIvA
import Derived.Deep.RegionHeldLaw
import Derived.Deep.LoopGhost
import Derived.Deep.QuietTactic
import Derived.BigQuiet
namespace Go.Proofs.YtehhkeenjlpikaaGreat
open Go.RowKit
end Go.Proofs.YtehhkeenjlpikaaGreat
