/- Draws, for the statements of chapter 02. -/
import Derived.Test.YtcccabgeoaidjaaLaw2e
import Derived.Deep.RegionHeldLaw
namespace Go.Proofs.Ytcccabgeoaidjaa
open Go.RowKit
theorem Ext.drewN_r {a w : World} {n : Nat} (h : Ext a w) : Ext a (w.drewN n) := h.trans ((Qt.refl _).drewN n).ext
end Go.Proofs.Ytcccabgeoaidjaa
