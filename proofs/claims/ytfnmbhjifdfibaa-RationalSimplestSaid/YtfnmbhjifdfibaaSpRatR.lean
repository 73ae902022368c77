/- Contracts of package rational: Mid, Integer, Floor, Ceil. -/
import Derived.Test.YtfnmbhjifdfibaaSpRatQ
import Derived.Test.YtfnmbhjifdfibaaSpRef5
import Derived.Test.YtfnmbhjifdfibaaSpDivE
import Derived.Deep.RegionHeldLaw
import Derived.Deep.LoopGhost
import Derived.Deep.QuietTactic
import Derived.BigQuiet
namespace Go.Proofs.Ytfnmbhjifdfibaa
open Go.RowKit
/-- An integer in a box that may be written. -/
def PutV (w w' : World) (x : Int) (s : Value) : Prop := ∃ b sb A c L, s = .pointer (some ⟨b, 0, none⟩) ∧ w.heap.size ≤ b ∧ BW w' b 25 (.bool sb) (.slice A L c) ∧ ZO w' 0 sb A c L x ∧ Ext w w'
theorem PutV.mk {w w' : World} {b : Nat} {sb : Bool} {x : Int} {A : Option Addr} {c L : Nat} (hb : w.heap.size ≤ b) (h1 : IsBox w' b 25) (h2 : w'.cell? ⟨b, 0, none⟩ = some (.bool sb)) (h3 : w'.cell? ⟨b, 1, none⟩ = some (.slice A L c)) (h4 : w'.frozen? ⟨b, 0, none⟩ = false) (h5 : w'.frozen? ⟨b, 1, none⟩ = false) (hz : ZO w' 0 sb A c L x) (hx : Ext w w') : PutV w w' x (.pointer (some ⟨b, 0, none⟩)) :=
  ⟨b, sb, A, c, L, rfl, hb, ⟨h1, h2, h3, h4, h5⟩, hz, hx⟩
end Go.Proofs.Ytfnmbhjifdfibaa
