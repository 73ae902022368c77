/- Statements about layer 2 (integers): the law's own helpers. -/
import Derived.Test.YtfnmbhjifdfibaaRefF
import Derived.Test.YtfnmbhjifdfibaaIntC
import Derived.Test.YtfnmbhjifdfibaaLaw1
namespace Go.Proofs.Ytfnmbhjifdfibaa
open Go.RowKit

theorem is_rz {w : World} {B : Nat} {s : Bool} {sg x : Int} {A A2 : Option Addr} {c c2 L L2 : Nat} (h1 : ZO w B s A c L x) (h2 : RZ w sg A2 c2 L2 x) (hs : bl x.natAbs ≤ 8796093022208) :
    Calls Try.prog 32 #[.bool s, .slice A L c, .agg #[.int .i64 sg, .slice A2 L2 c2]] w fun e w' => e = .returned (.bool true) ∧ Ext w w' := by
  have HI : Hid (∀ w', Ext w w' → Calls Try.prog 80 #[.slice A L c, .slice A2 L2 c2] w' fun e w'' => e = .returned (.bool true) ∧ Ext w' w'') := fun w' hx => by
    rw [h1.len, h2.len]
    exact is_yes (h1.no.ext hx) (h2.bn.ext hx) rfl hs
  have hb : (s == decide (sg < 0)) = true := by
    rw [h1.sign, h2.sign]
    rcases sign_cases x with ⟨a, b⟩ | ⟨a, b⟩ | ⟨a, b⟩ <;> rw [b] <;> simp <;> omega
  clear h1 h2
  go_enter Try.func32, Try.ntmps32
  go_wp2_with fail
  refine (HI.out _ (Ext.alloc _ _)).mono ?_
  rintro e w' ⟨rfl, hx⟩
  go_wp2_with fail
  go_ret
  exact ⟨rfl, (Ext.alloc _ _).trans hx⟩

end Go.Proofs.Ytfnmbhjifdfibaa
