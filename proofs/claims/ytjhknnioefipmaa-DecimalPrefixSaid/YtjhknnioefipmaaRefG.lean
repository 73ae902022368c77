/- Contracts of package cylinderref02, second part: Mul, Neg, Cmp, Add. -/
import Derived.Test.YtjhknnioefipmaaRefF
import Derived.Test.YtjhknnioefipmaaIntC
namespace Go.Proofs.Ytjhknnioefipmaa
open Go.RowKit

theorem box_at (w : World) (vs : Array Value) (T : TypeId) :
    (∀ i v, vs[i]? = some v → (w.alloc (.cells vs T)).cell? ⟨w.heap.size, i, none⟩ = some v) ∧ (∀ i, (w.alloc (.cells vs T)).frozen? ⟨w.heap.size, i, none⟩ = false) := by
  have h := heap_alloc_new w (.cells vs T)
  refine ⟨fun i v hv => ?_, fun i => ?_⟩
  · rw [cell_of_row _ _ i _ _ (0, 0) h]; exact hv
  · simp only [World.frozen?]; rw [h]; simp

theorem sign_mul_bd {x y : Int} : -1 ≤ x.sign * y.sign ∧ x.sign * y.sign ≤ 1 := by
  rcases sign_cases x with ⟨_, a⟩ | ⟨_, a⟩ | ⟨_, a⟩ <;> rcases sign_cases y with ⟨_, b⟩ | ⟨_, b⟩ | ⟨_, b⟩ <;> rw [a, b] <;> decide
theorem sign_mul_neg {x y : Int} (h : x.sign * y.sign < 0) : x * y ≤ 0 := by
  rw [← Int.sign_mul] at h
  rcases sign_cases (x * y) with ⟨a, b⟩ | ⟨a, b⟩ | ⟨a, b⟩ <;> omega
theorem sign_mul_pos {x y : Int} (h : ¬ x.sign * y.sign < 0) : 0 ≤ x * y := by
  rw [← Int.sign_mul] at h
  rcases sign_cases (x * y) with ⟨a, b⟩ | ⟨a, b⟩ | ⟨a, b⟩ <;> omega
theorem sign_bd (x : Int) : -1 ≤ x.sign ∧ x.sign ≤ 1 := by rcases sign_cases x with ⟨_, a⟩ | ⟨_, a⟩ | ⟨_, a⟩ <;> omega
theorem cmpN_bd (a b : Nat) : -1 ≤ cmpN a b ∧ cmpN a b ≤ 1 := by unfold cmpN; split <;> (try split) <;> omega
theorem sign_cmp {x y : Int} (h : x.sign = y.sign) : x.sign * cmpN x.natAbs y.natAbs = cmpZ x y := by
  rcases sign_cases x with ⟨h1, a⟩ | ⟨h1, a⟩ | ⟨h1, a⟩ <;> rcases sign_cases y with ⟨h2, b⟩ | ⟨h2, b⟩ | ⟨h2, b⟩ <;> (try omega) <;> rw [a] <;> unfold cmpN cmpZ <;> (repeat' split) <;> omega

theorem add_sign {x y : Int} (h : 0 ≤ x.sign * y.sign) : (x + y).natAbs = x.natAbs + y.natAbs ∧ (x.sign + y.sign < 0 → x + y ≤ 0) ∧ (¬ x.sign + y.sign < 0 → 0 ≤ x + y) := by
  rcases sign_cases x with ⟨h1, a⟩ | ⟨h1, a⟩ | ⟨h1, a⟩ <;> rcases sign_cases y with ⟨h2, b⟩ | ⟨h2, b⟩ | ⟨h2, b⟩ <;> rw [a, b] at h ⊢ <;> omega
theorem sub_sign {x y : Int} (h : x.sign * y.sign < 0) (hl : y.natAbs ≤ x.natAbs) : (x + y).natAbs = x.natAbs - y.natAbs ∧ (x.sign < 0 → x + y ≤ 0) ∧ (¬ x.sign < 0 → 0 ≤ x + y) := by
  rcases sign_cases x with ⟨h1, a⟩ | ⟨h1, a⟩ | ⟨h1, a⟩ <;> rcases sign_cases y with ⟨h2, b⟩ | ⟨h2, b⟩ | ⟨h2, b⟩ <;> rw [a] <;> rw [a, b] at h <;> omega
end Go.Proofs.Ytjhknnioefipmaa
