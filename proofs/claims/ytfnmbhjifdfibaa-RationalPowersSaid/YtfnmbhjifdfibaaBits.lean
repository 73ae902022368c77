/- Contracts of the functions of math/bits that the program calls. -/
import Derived.Test.YtfnmbhjifdfibaaProg
import Derived.Test.YtfnmbhjifdfibaaMem
import Derived.Handy
import Derived.BigQuiet
import Derived.Deep.QuietTactic
namespace Go.Proofs.Ytfnmbhjifdfibaa
open Go.RowKit

theorem ret_int {k : IntKind} {a b : Int} (h : a = b) : Ending.returned (.int k a) = .returned (.int k b) := by rw [h]
theorem ret_int2 {k k' : IntKind} {a b a' b' : Int} (h : a = b) (h' : a' = b') : Ending.returned (.tuple #[.int k a, .int k' a']) = .returned (.tuple #[.int k b, .int k' b']) := by rw [h, h']

theorem add32_any (x y c : Nat) (w : World) (hx : x < 4294967296) (hy : y < 4294967296) (hc : c ≤ 1) :
    Calls Try.prog 126 #[.int .u32 x, .int .u32 y, .int .u32 c] w fun e w' => e = .returned (.tuple #[.int .u32 ((x + y + c) % 4294967296 : Nat), .int .u32 ((x + y + c) / 4294967296 : Nat)]) ∧ w = w' := by
  go_enter Try.func126, Try.ntmps126
  go_wp2
  go_ret2
  exact ⟨ret_int2 (by omega) (by omega), rfl⟩


theorem mul_bound {x y : Nat} (hx : x < 4294967296) (hy : y < 4294967296) : x * y ≤ 18446744065119617025 :=
  Nat.le_trans (Nat.mul_le_mul (Nat.le_sub_one_of_lt hx) (Nat.le_sub_one_of_lt hy)) (by omega)
theorem mul_bound' {x y : Nat} (hx : x < 4294967296) (hy : y < 4294967296) : 0 ≤ (x : Int) * (y : Int) ∧ (x : Int) * (y : Int) ≤ 18446744065119617025 := by
  have h := mul_bound hx hy
  have e : ((x * y : Nat) : Int) = (x : Int) * (y : Int) := Int.natCast_mul x y
  omega

theorem top_bit (n : Nat) (h : n < 4294967296) : n / 2147483648 = if n.testBit 31 then 1 else 0 := by
  rw [Nat.testBit_eq_decide_div_mod_eq]
  have : 2 ^ 31 = 2147483648 := by decide
  rw [this]
  by_cases hn : n / 2147483648 % 2 = 1
  · simp [hn]; omega
  · simp [hn]; omega
theorem top_le (n : Nat) (h : n < 4294967296) : n.testBit 31 = decide (2147483648 ≤ n) := by
  rw [Nat.testBit_eq_decide_div_mod_eq]
  have : 2 ^ 31 = 2147483648 := by decide
  rw [this]
  congr 1
  apply propext
  omega
/-- The borrow of x - y - c. -/
def bor (x y c : Nat) : Nat := if x < y + c then 1 else 0
theorem borrow_bit (x y c : Nat) (hx : x < 4294967296) (hy : y < 4294967296) (hc : c ≤ 1) :
    (((4294967295 ^^^ x) &&& y) ||| ((4294967295 ^^^ (x ^^^ y)) &&& ((x + 4294967296 - y - c) % 4294967296))) / 2147483648 = bor x y c := by
  unfold bor
  have hm : (4294967295 : Nat).testBit 31 = true := by decide
  have h32 : (4294967296 : Nat) = 2 ^ 32 := by decide
  have hd : (x + 4294967296 - y - c) % 4294967296 < 4294967296 := Nat.mod_lt _ (by omega)
  have b1 : ((4294967295 ^^^ x) &&& y) < 4294967296 := Nat.lt_of_le_of_lt Nat.and_le_right hy
  have b2 : ((4294967295 ^^^ (x ^^^ y)) &&& ((x + 4294967296 - y - c) % 4294967296)) < 4294967296 := Nat.lt_of_le_of_lt Nat.and_le_right hd
  rw [top_bit _ (by rw [h32] at b1 b2 ⊢; exact Nat.or_lt_two_pow b1 b2)]
  rw [Nat.testBit_or, Nat.testBit_and, Nat.testBit_and, Nat.testBit_xor, Nat.testBit_xor, Nat.testBit_xor, hm, top_le x hx, top_le y hy, top_le _ hd]
  by_cases h1 : 2147483648 ≤ x <;> by_cases h2 : 2147483648 ≤ y <;> by_cases h3 : 2147483648 ≤ (x + 4294967296 - y - c) % 4294967296 <;> by_cases h4 : x < y + c <;> simp [h1, h2, h3, h4] <;> omega

theorem mul32_any (x y : Nat) (w : World) (hx : x < 4294967296) (hy : y < 4294967296) :
    Calls Try.prog 132 #[.int .u32 x, .int .u32 y] w fun e w' => e = .returned (.tuple #[.int .u32 ((x * y) / 4294967296 : Nat), .int .u32 ((x * y) % 4294967296 : Nat)]) ∧ w = w' := by
  obtain ⟨h0, h1⟩ := mul_bound' hx hy
  go_enter Try.func132, Try.ntmps132
  go_wp2
  go_ret2
  have e : ((x * y : Nat) : Int) = (x : Int) * (y : Int) := Int.natCast_mul x y
  exact ⟨ret_int2 (by omega) (by omega), rfl⟩

theorem sub32_any (x y c : Nat) (w : World) (hx : x < 4294967296) (hy : y < 4294967296) (hc : c ≤ 1) :
    Calls Try.prog 128 #[.int .u32 x, .int .u32 y, .int .u32 c] w fun e w' => e = .returned (.tuple #[.int .u32 ((x + 4294967296 - y - c) % 4294967296 : Nat), .int .u32 (bor x y c)]) ∧ w = w' := by
  have hd : (x + 4294967296 - y - c) % 4294967296 < 4294967296 := Nat.mod_lt _ (by omega)
  have HF := Lib.hid (borrow_bit x y c hx hy hc)
  go_enter Try.func128, Try.ntmps128
  go_wp2
  go_ret2
  refine ⟨ret_int2 (by omega) ?_, rfl⟩
  have hm : IntKind.u32.max = ((4294967295 : Nat) : Int) := by decide
  have hd' : ((x : Int) - (y : Int) - (c : Int)) % 4294967296 = (((x + 4294967296 - y - c) % 4294967296 : Nat) : Int) := by omega
  have h32 : (4294967296 : Nat) = 2 ^ 32 := by decide
  have hxy : x ^^^ y < 4294967296 := by rw [h32] at hx hy ⊢; exact Nat.xor_lt_two_pow hx hy
  have h1 : 4294967295 ^^^ x < 4294967296 := by rw [h32] at hx ⊢; exact Nat.xor_lt_two_pow (by decide) hx
  have h2 : 4294967295 ^^^ (x ^^^ y) < 4294967296 := by rw [h32] at hxy ⊢; exact Nat.xor_lt_two_pow (by decide) hxy
  rw [hm, hd', u32_xor_nat x y hx hy, u32_xor_nat _ _ (by omega) hx, u32_xor_nat _ _ (by omega) hxy, u32_and_nat _ _ h1 hy, u32_and_nat _ _ h2 hd,
    u32_or_nat _ _ (Nat.lt_of_le_of_lt Nat.and_le_right hy) (Nat.lt_of_le_of_lt Nat.and_le_right hd), ← HF.out]
  omega

theorem div_small {h l y : Nat} (hh : h < y) (hl : l < 4294967296) : (h * 4294967296 + l) / y < 4294967296 :=
  Nat.div_lt_of_lt_mul (by have := Nat.mul_le_mul_right 4294967296 (Nat.succ_le_of_lt hh); omega)
theorem hi_lo (h l : Nat) (hl : l < 4294967296) : h * 4294967296 ||| l = h * 4294967296 + l := by
  have h32 : (4294967296 : Nat) = 2 ^ 32 := by decide
  rw [h32] at hl ⊢
  rw [Nat.mul_comm, Nat.two_pow_add_eq_or_of_lt hl]

theorem div32_any (h l y : Nat) (w : World) (hh : h < y) (hl : l < 4294967296) (hy : y < 4294967296) :
    Calls Try.prog 151 #[.int .u32 h, .int .u32 l, .int .u32 y] w fun e w' => e = .returned (.tuple #[.int .u32 ((h * 4294967296 + l) / y : Nat), .int .u32 ((h * 4294967296 + l) % y : Nat)]) ∧ ∃ n, w' = w.drewN n := by
  have h1 : ((y : Int) != 0) = true := by simp; omega
  have h2 : decide ((y : Int) ≤ (h : Int)) = false := by simp; omega
  have h3 : (1 : Int) ≤ (y : Int) := by omega
  go_enter Try.func151, Try.ntmps151
  go_wp2
  go_quiet (fail)
  go_wp2
  go_ret2
  have e : bits BinOp.or IntKind.u64 ((h : Int) * 4294967296) (l : Int) = ((h * 4294967296 + l : Nat) : Int) := by
    have := u64_or_nat (h * 4294967296) l (by omega) (by omega)
    rw [hi_lo h l hl] at this
    rw [← this]
    rfl
  have e1 : ((h * 4294967296 + l : Nat) : Int).tdiv (y : Int) = (((h * 4294967296 + l) / y : Nat) : Int) := rfl
  have e2 : ((h * 4294967296 + l : Nat) : Int).tmod (y : Int) = (((h * 4294967296 + l) % y : Nat) : Int) := rfl
  have q := div_small hh hl
  have r : (h * 4294967296 + l) % y < y := Nat.mod_lt _ (by omega)
  refine ⟨ret_int2 ?_ ?_, _, rfl⟩
  · rw [e, e1]
    generalize (h * 4294967296 + l) / y = Q at q
    rw [IntWalk.u64_in _ (by omega)]
    omega
  · rw [e, e2]
    generalize (h * 4294967296 + l) % y = R at r
    omega
end Go.Proofs.Ytfnmbhjifdfibaa
