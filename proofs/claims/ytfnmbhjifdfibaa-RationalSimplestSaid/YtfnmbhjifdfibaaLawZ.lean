/- What the laws on integers call. -/
import Derived.Test.YtfnmbhjifdfibaaRefY
import Derived.Test.YtfnmbhjifdfibaaIntX
import Derived.Test.YtfnmbhjifdfibaaNatY
namespace Go.Proofs.Ytfnmbhjifdfibaa
open Go.RowKit
theorem is_rz {w : World} {B : Nat} {s : Bool} {sg x : Int} {A A2 : Option Addr} {c c2 L L2 : Nat} (h1 : ZO w B s A c L x) (h2 : RZ w sg A2 c2 L2 x) (hs : bl x.natAbs ≤ 8796093022208) :
    Calls Try.prog 32 #[.bool s, .slice A L c, .agg #[.int .i64 sg, .slice A2 L2 c2]] w fun e w' => e = .returned (.bool true) ∧ Ext w w' := by
  have HI : Hid (∀ w', Ext w w' → Calls Try.prog 80 #[.slice A L c, .slice A2 L2 c2] w' fun e w'' => e = .returned (.bool true) ∧ Ext w' w'') := fun w' hx => by
    rw [h1.len, h2.len]
    exact is_yes (h1.no.ext hx) (h2.bn.ext hx) rfl hs
  have hb : (s == decide (sg < 0)) = true := by
    rw [h1.sign, h2.sign]
    rcases sign_cases x with ⟨a, b⟩ | ⟨a, b⟩ | ⟨a, b⟩ <;> rw [b] <;> simp <;> omega
  clear h1 h2
  go_enter Try.func32, Try.ntmps32
  go_wp2_with fail
  refine (HI.out _ (Ext.alloc _ _)).mono ?_
  rintro e w' ⟨rfl, hx⟩
  go_wp2_with fail
  go_ret
  exact ⟨rfl, (Ext.alloc _ _).trans hx⟩

theorem dlz_add (x y : Int) : dl (x + y).natAbs ≤ max (dl x.natAbs) (dl y.natAbs) + 1 :=
  Nat.le_trans (dl_mono (show (x + y).natAbs ≤ x.natAbs + y.natAbs by omega)) (dl_add _ _)
theorem dlz_mul (x y : Int) : dl (x * y).natAbs ≤ dl x.natAbs + dl y.natAbs := by rw [Int.natAbs_mul]; exact dl_mul _ _
theorem same_yes {w : World} {s1 s2 : Bool} {A1 A2 : Option Addr} {c1 c2 L1 L2 : Nat} {x y : Int} (h1 : ZV w s1 A1 c1 L1 x) (h2 : ZV w s2 A2 c2 L2 y) (e : x = y) :
    Calls Try.prog 34 #[.agg #[.bool s1, .slice A1 L1 c1], .agg #[.bool s2, .slice A2 L2 c2]] w fun e w' => e = .returned (.bool true) ∧ Ext w w' := by
  subst e
  have := same_z h1 h2
  rwa [beq_self_eq_true] at this
theorem cmp_is {w : World} {s1 s2 : Bool} {A1 A2 : Option Addr} {c1 c2 L1 L2 : Nat} {x y k : Int} (h1 : ZV w s1 A1 c1 L1 x) (h2 : ZV w s2 A2 c2 L2 y) (e : cmpZ x y = k) :
    Calls Try.prog 82 #[.agg #[.bool s1, .slice A1 L1 c1], .agg #[.bool s2, .slice A2 L2 c2]] w fun e w' => e = .returned (.int .i64 k) ∧ Ext w w' := by
  subst e
  exact cmp_z h1 h2
theorem sign_is {w : World} {s1 : Bool} {A1 : Option Addr} {c1 L1 : Nat} {x k : Int} (h1 : ZV w s1 A1 c1 L1 x) (e : x.sign = k) :
    Calls Try.prog 33 #[.agg #[.bool s1, .slice A1 L1 c1]] w fun e w' => e = .returned (.int .i64 k) ∧ Ext w w' := by
  subst e
  exact sign_z h1
theorem cmpZ_bd (x y : Int) : -1 ≤ cmpZ x y ∧ cmpZ x y ≤ 1 := by unfold cmpZ; repeat' split <;> omega
theorem cmpZ_swap (x y : Int) : cmpZ y x = -cmpZ x y := by unfold cmpZ; repeat' split <;> omega
theorem cmpZ_add (x y z : Int) : cmpZ (x + z) (y + z) = cmpZ x y := by unfold cmpZ; repeat' split <;> omega
theorem cmpZ_tri {x y z : Int} (h1 : cmpZ x y ≤ 0) (h2 : cmpZ y z ≤ 0) : cmpZ x z ≤ 0 := by unfold cmpZ at *; repeat' split at * <;> omega
theorem cmpZ_sub (x y : Int) : (x - y).sign = cmpZ x y := by
  unfold cmpZ
  rcases sign_cases (x - y) with ⟨h, e⟩ | ⟨h, e⟩ | ⟨h, e⟩ <;> rw [e] <;> (repeat' split) <;> omega
theorem cmpZ_mul (x y z : Int) : cmpZ (x * z) (y * z) = cmpZ x y * z.sign := by
  rw [← cmpZ_sub, ← cmpZ_sub, ← Int.sub_mul, Int.sign_mul]
theorem bl_le_of {n k : Nat} (h : n < 2 ^ k) : bl n ≤ k := digs_len_le (by omega) h
theorem lt_of_bl {n k : Nat} (h : bl n ≤ k) : n < 2 ^ k := Nat.lt_of_lt_of_le (lt_pow_len (B := 2) (by omega) n) (Nat.pow_le_pow_right (by omega) h)
theorem words_cases (z : Int) : (bl z.natAbs < 64 ∧ (-9223372036854775808 ≤ z ∧ z ≤ 9223372036854775807)) ∨ (bl z.natAbs = 64 ∧ (-9223372036854775808 ≤ z ∧ z ≤ 9223372036854775807) ∧ z.sign < 0) ∨
    (bl z.natAbs = 64 ∧ ¬ (-9223372036854775808 ≤ z ∧ z ≤ 9223372036854775807) ∧ z.sign < 0) ∨ (bl z.natAbs = 64 ∧ ¬ (-9223372036854775808 ≤ z ∧ z ≤ 9223372036854775807) ∧ 0 ≤ z.sign) ∨
    (64 < bl z.natAbs ∧ ¬ (-9223372036854775808 ≤ z ∧ z ≤ 9223372036854775807)) := by
  have e63 : (2 : Nat) ^ 63 = 9223372036854775808 := by decide
  have e64 : (2 : Nat) ^ 64 = 18446744073709551616 := by decide
  have h1 : bl z.natAbs ≤ 63 → z.natAbs < 9223372036854775808 := fun h => by rw [← e63]; exact lt_of_bl h
  have h2 : bl z.natAbs ≤ 64 → z.natAbs < 18446744073709551616 := fun h => by rw [← e64]; exact lt_of_bl h
  have h3 : z.natAbs < 9223372036854775808 → bl z.natAbs ≤ 63 := fun h => bl_le_of (by rw [e63]; exact h)
  have h4 : z.natAbs < 18446744073709551616 → bl z.natAbs ≤ 64 := fun h => bl_le_of (by rw [e64]; exact h)
  generalize bl z.natAbs = b at *
  rcases sign_cases z with ⟨s, e⟩ | ⟨s, e⟩ | ⟨s, e⟩ <;> rw [e] <;> omega
end Go.Proofs.Ytfnmbhjifdfibaa
