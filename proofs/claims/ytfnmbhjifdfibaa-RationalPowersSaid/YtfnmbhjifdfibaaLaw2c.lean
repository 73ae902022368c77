/- Order of integers, for the statements of chapter 02. -/
import Derived.Test.YtfnmbhjifdfibaaLaw2b
namespace Go.Proofs.Ytfnmbhjifdfibaa
open Go.RowKit
theorem cmp_is {w : World} {s1 s2 : Bool} {A1 A2 : Option Addr} {c1 c2 L1 L2 : Nat} {x y k : Int} (h1 : ZV w s1 A1 c1 L1 x) (h2 : ZV w s2 A2 c2 L2 y) (e : cmpZ x y = k) :
    Calls Try.prog 82 #[.agg #[.bool s1, .slice A1 L1 c1], .agg #[.bool s2, .slice A2 L2 c2]] w fun e w' => e = .returned (.int .i64 k) ∧ Ext w w' := by
  subst e
  exact cmp_z h1 h2
theorem sign_is {w : World} {s1 : Bool} {A1 : Option Addr} {c1 L1 : Nat} {x k : Int} (h1 : ZV w s1 A1 c1 L1 x) (e : x.sign = k) :
    Calls Try.prog 33 #[.agg #[.bool s1, .slice A1 L1 c1]] w fun e w' => e = .returned (.int .i64 k) ∧ Ext w w' := by
  subst e
  exact sign_z h1
theorem cmpZ_bd (x y : Int) : -1 ≤ cmpZ x y ∧ cmpZ x y ≤ 1 := by unfold cmpZ; repeat' split <;> omega
theorem cmpZ_swap (x y : Int) : cmpZ y x = -cmpZ x y := by unfold cmpZ; repeat' split <;> omega
theorem cmpZ_add (x y z : Int) : cmpZ (x + z) (y + z) = cmpZ x y := by unfold cmpZ; repeat' split <;> omega
theorem cmpZ_tri {x y z : Int} (h1 : cmpZ x y ≤ 0) (h2 : cmpZ y z ≤ 0) : cmpZ x z ≤ 0 := by unfold cmpZ at *; repeat' split at * <;> omega
theorem cmpZ_sub (x y : Int) : (x - y).sign = cmpZ x y := by
  unfold cmpZ
  rcases sign_cases (x - y) with ⟨h, e⟩ | ⟨h, e⟩ | ⟨h, e⟩ <;> rw [e] <;> (repeat' split) <;> omega
theorem cmpZ_mul (x y z : Int) : cmpZ (x * z) (y * z) = cmpZ x y * z.sign := by
  rw [← cmpZ_sub, ← cmpZ_sub, ← Int.sub_mul, Int.sign_mul]
end Go.Proofs.Ytfnmbhjifdfibaa
