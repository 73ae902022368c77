/- More of the laws' helpers of chapter 05: is with another fraction; one half and zero. -/
import Derived.Test.YtfnmbhjifdfibaaSpLaw5b
import Derived.Test.YtfnmbhjifdfibaaSpRatR
import Derived.Deep.RegionHeldLaw
import Derived.Deep.LoopGhost
import Derived.Deep.QuietTactic
import Derived.BigQuiet
namespace Go.Proofs.Ytfnmbhjifdfibaa
open Go.RowKit
theorem qr_zero {w : World} {h : Int} {B : Option Addr} {d M : Nat} (h2 : RZ w h B d M 1) : QR w 0 none 0 0 h B d M 1 0 :=
  ⟨0, 1, ⟨Own.bn (n := 0) (Own.none_ _ 0 _ _), rfl, rfl⟩, h2, by omega, (Rat.zero_mkRat 1).symm, bl_of_lt (by omega), bl_of_lt (by omega)⟩
theorem rv_zero (w : World) : RV w false none 0 0 none 0 0 1 0 :=
  ⟨⟨0, 0, zv_zero w, (zv_zero w).nv, (Rat.zero_mkRat 0).symm, Nat.zero_le _, Nat.zero_le _⟩, Nat.le_refl _⟩
end Go.Proofs.Ytfnmbhjifdfibaa
