/- Contracts of package integer, fourth part: BitLen, IsOdd, Int64. -/
import Derived.Test.YtfnmbhjifdfibaaRefY
import Derived.Test.YtfnmbhjifdfibaaNatY
namespace Go.Proofs.Ytfnmbhjifdfibaa
open Go.RowKit

theorem zbitLen_z {w : World} {s : Bool} {A : Option Addr} {c L : Nat} {x : Int} (h : ZV w s A c L x) (hs : dl x.natAbs ≤ 17592186044416) :
    Calls Try.prog 85 #[.agg #[.bool s, .slice A L c]] w fun e w' => e = .returned (.int .i64 (bl x.natAbs)) ∧ Ext w w' := by
  have HC : Hid (∀ w', Ext w w' → Calls Try.prog 86 #[.slice A L c] w' fun e w'' => e = .returned (.int .i64 (bl x.natAbs)) ∧ w' = w'') := fun w' hx => bitLen_v (h.nv.ext hx) hs
  clear h hs
  generalize bl x.natAbs = n at *
  go_enter Try.func85, Try.ntmps85
  go_wp2_with fail
  obtain ⟨w0, hw0⟩ : ∃ z : World, z = (w.alloc (.cells #[.bool s, .slice A L c] 25)) := ⟨_, rfl⟩
  rw [← hw0]
  have b0 := box_at w #[.bool s, .slice A L c] 25
  have hsz : w0.heap.size = w.heap.size + 1 := by rw [hw0]; simp
  rw [← hw0] at b0
  have y0 : Ext w w0 := by rw [hw0]; exact Ext.alloc _ _
  have x0 : Ext w w0 := y0
  have e0_0 := b0.1 0 (.bool s) rfl
  have e0_1 := b0.1 1 (.slice A L c) rfl
  clear hw0 b0 y0
  go_wp2_with fail
  refine (HC.out _ x0).mono ?_
  rintro e w' ⟨rfl, rfl⟩
  go_wp2_with fail
  go_ret
  exact ⟨rfl, x0⟩

theorem bit0 (n : Nat) : bitN n 0 = n % 2 := by unfold bitN; simp
theorem wrap_neg {n : Nat} (h : n ≤ 9223372036854775808) : wrap64 (IntKind.u64.wrap (-(n : Int))) = -(n : Int) := by
  have e : ∀ z : Int, IntKind.u64.wrap z = z % 18446744073709551616 := fun z => rfl
  unfold wrap64
  rw [e]
  omega
theorem ret_ib {k : IntKind} {a b : Int} {t : Bool} (h : a = b) : Ending.returned (.tuple #[.int k a, .bool t]) = .returned (.tuple #[.int k b, .bool t]) := by rw [h]
end Go.Proofs.Ytfnmbhjifdfibaa
