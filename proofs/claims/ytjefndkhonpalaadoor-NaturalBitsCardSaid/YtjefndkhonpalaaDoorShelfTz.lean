/- The contract of math/bits.TrailingZeros32, laid from the library's shelf in plain words. -/
import Derived.Shelf.Spec.TrailingZeros
import Derived.Test.YtjefndkhonpalaaDoorProg
namespace Go.Proofs
open Go.Shelf
def Tryd.lays28_ren : Go.Shelf.Ren := ⟨fun | 28 => 15 | n => n, fun | 0 => 0 | 3 => 3 | 4 => 4 | 5 => 5 | 25 => 36 | 27 => 34 | 53 => 40 | n => n, fun | 0 => 0 | n => n⟩
theorem Tryd.lays28 : Go.Proofs.Lays7.n28 Tryd.prog Tryd.lays28_ren := {
  mixed := by kernel_rfl
  f28 := Tryd.func15.trans (congrArg some (by kernel_rfl))
  t0 := Tryd.underlying0
  a0 := Tryd.isAgg0
  z0 := Tryd.sizeOf0
  v0 := Tryd.zeroValue0
  i0 := by kernel_rfl
  t3 := Tryd.underlying3
  a3 := Tryd.isAgg3
  z3 := Tryd.sizeOf3
  v3 := Tryd.zeroValue3
  i3 := by kernel_rfl
  t4 := Tryd.underlying4
  a4 := Tryd.isAgg4
  z4 := Tryd.sizeOf4
  v4 := Tryd.zeroValue4
  i4 := by kernel_rfl
  t5 := Tryd.underlying5
  a5 := Tryd.isAgg5
  z5 := Tryd.sizeOf5
  v5 := Tryd.zeroValue5
  i5 := by kernel_rfl
  t25 := Tryd.underlying36
  a25 := Tryd.isAgg36
  z25 := Tryd.sizeOf36
  v25 := Tryd.zeroValue36
  i25 := by kernel_rfl
  t27 := Tryd.underlying34
  a27 := Tryd.isAgg34
  z27 := Tryd.sizeOf34
  v27 := Tryd.zeroValue34
  i27 := by kernel_rfl
  t53 := Tryd.underlying40
  a53 := Tryd.isAgg40
  z53 := Tryd.sizeOf40
  v53 := Tryd.zeroValue40
  i53 := by kernel_rfl
  g0 := by kernel_rfl }
/-- math/bits.TrailingZeros32, at every x, where the table stands in its variable. -/
theorem Tryd.bits_TrailingZeros32 (x : Nat) (hx : x < 4294967296) (w : World) (hT : x ≠ 0 → TabAt 0 Lib.deBruijn32tab w) :
    Calls Tryd.prog 15 #[.int .u32 x] w fun e w' => e = .returned (.int .i64 (Lib.ctz 32 x)) ∧ w' = w := Any7.bits_TrailingZeros32 Tryd.lays28 x hx w hT
end Go.Proofs
