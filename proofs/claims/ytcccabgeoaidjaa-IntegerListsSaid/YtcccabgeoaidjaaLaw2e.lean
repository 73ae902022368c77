/- The least integer of 64 bits, for the statements of chapter 02. -/
import Derived.Test.YtcccabgeoaidjaaLaw2d
namespace Go.Proofs.Ytcccabgeoaidjaa
open Go.RowKit
theorem digs_one : digs 2 1 = [1] := by
  rw [digs_pos (by omega) (by omega)]
  rfl
theorem bn_one {w : World} {g : Nat} (h : Row w g .i64 3 [1]) : BN w (some ⟨g, 0, none⟩) 1 1 := by
  have h1 : Own w 0 .i64 3 (some ⟨g, 0, none⟩) 1 (digs 2 1) := by
    rw [digs_one]
    exact Own.of_row' h (Nat.zero_le _) (by unfold maxLen; simp) rfl rfl
  exact Own.bn h1
theorem bl_63 : (digs 2 9223372036854775808).length = 64 := by
  have h1 := bl_le_of (n := 9223372036854775808) (k := 64) (by decide)
  have h2 : ¬ bl 9223372036854775808 ≤ 63 := fun h => absurd (lt_of_bl h) (by decide)
  unfold bl at h1 h2
  omega
theorem up_one {w : World} {g : Nat} (h : Row w g .i64 3 [1]) : Calls Try.prog 15 #[.slice (some ⟨g, 0, none⟩) 1 1, .int .i64 63] w
    fun e w' => ∃ A c, e = .returned (.slice A 64 c) ∧ BN w' A c 9223372036854775808 ∧ Ext w w' := by
  have := up_any (m := 63) (bn_one h) (by show bl 1 ≤ _; have := bl_le_of (n := 1) (k := 1) (by decide); omega) (by omega)
  rw [show (1 : Nat) * 2 ^ 63 = 9223372036854775808 from by decide, digs_one] at this
  unfold RetB at this
  rw [bl_63] at this
  exact this
theorem rcmp_is {w : World} {sg k x : Int} {A1 A2 : Option Addr} {c1 c2 L1 : Nat} (h1 : RZ w sg A1 c1 L1 x) (h2 : BN w A2 c2 9223372036854775808) (hs : bl x.natAbs ≤ 8796093022208) (e : cmpN x.natAbs 9223372036854775808 = k) :
    Calls Try.prog 36 #[.slice A1 L1 c1, .slice A2 64 c2] w fun e w' => e = .returned (.int .i64 k) ∧ Ext w w' := by
  subst e
  have := rcmp_any h1.bn h2 hs (by unfold bl; rw [bl_63]; omega)
  rw [bl_63, ← h1.len] at this
  refine this.mono ?_
  rintro e w' ⟨rfl, rfl⟩
  exact ⟨rfl, Ext.refl _⟩
theorem words_eq {z : Int} (h : -9223372036854775808 ≤ z ∧ z ≤ 9223372036854775807) (hs : z.sign < 0) (hl : bl z.natAbs = 64) : cmpN z.natAbs 9223372036854775808 = 0 := by
  have h1 : ¬ z.natAbs < 9223372036854775808 := fun h => by
    have := bl_le_of (n := z.natAbs) (k := 63) (by rw [show (2 : Nat) ^ 63 = 9223372036854775808 from by decide]; exact h)
    omega
  have h2 : z.natAbs = 9223372036854775808 := by rcases sign_cases z with ⟨s, e⟩ | ⟨s, e⟩ | ⟨s, e⟩ <;> omega
  rw [h2]
  exact cmpN_eq _
theorem words_gt {z : Int} (h : ¬ (-9223372036854775808 ≤ z ∧ z ≤ 9223372036854775807)) (hs : z.sign < 0) : cmpN z.natAbs 9223372036854775808 = 1 :=
  cmpN_gt (by rcases sign_cases z with ⟨s, e⟩ | ⟨s, e⟩ | ⟨s, e⟩ <;> omega)
end Go.Proofs.Ytcccabgeoaidjaa
