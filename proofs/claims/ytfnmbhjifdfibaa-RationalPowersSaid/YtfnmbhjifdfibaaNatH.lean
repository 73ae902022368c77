/- Contracts of natural.Bit. -/
import Derived.Test.YtfnmbhjifdfibaaNatG
namespace Go.Proofs.Ytfnmbhjifdfibaa
open Go.RowKit

theorem and_one (x : Nat) (h : x < 4294967296) : bits BinOp.and IntKind.u32 (x : Int) 1 = ((x % 2 : Nat) : Int) := by
  have := u32_and_nat x 1 h (by omega)
  rw [show x &&& 1 = x % 2 from Nat.and_one_is_mod x] at this
  exact this

theorem bitN_zero_of_lenV {ds : List Nat} (hv : Valid B32 ds) {i : Nat} (h : ds.length ≤ i / 32) : bitN (V ds) i = 0 := by
  have h1 := val_lt hv
  have h2 : V ds < 2 ^ i := by
    refine Nat.lt_of_lt_of_le h1 ?_
    rw [show B32 = 2 ^ 32 from rfl, ← Nat.pow_mul]
    exact Nat.pow_le_pow_right (by omega) (by omega)
  unfold bitN
  rw [Nat.div_eq_of_lt h2]

end Go.Proofs.Ytfnmbhjifdfibaa
