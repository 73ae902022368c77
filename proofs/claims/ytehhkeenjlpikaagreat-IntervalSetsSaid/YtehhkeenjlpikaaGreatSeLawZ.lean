/- What the laws on integers call. -/
import Derived.Test.YtehhkeenjlpikaaGreatRefY
import Derived.Test.YtehhkeenjlpikaaGreatIntX
import Derived.Test.YtehhkeenjlpikaaGreatNatY
namespace Go.Proofs.YtehhkeenjlpikaaGreat
open Go.RowKit
theorem is_rz {w : World} {B : Nat} {s : Bool} {sg x : Int} {A A2 : Option Addr} {c c2 L L2 : Nat} (h1 : ZO w B s A c L x) (h2 : RZ w sg A2 c2 L2 x) (hs : bl x.natAbs ≤ 8796093022208) :
    Calls Tryz.prog 68 #[.bool s, .slice A L c, .agg #[.int .i64 sg, .slice A2 L2 c2]] w fun e w' => e = .returned (.bool true) ∧ Ext w w' := by
  have HI : Hid (∀ w', Ext w w' → Calls Tryz.prog 94 #[.slice A L c, .slice A2 L2 c2] w' fun e w'' => e = .returned (.bool true) ∧ Ext w' w'') := fun w' hx => by
    rw [h1.len, h2.len]
    exact is_yes (h1.no.ext hx) (h2.bn.ext hx) rfl hs
  have hb : (s == decide (sg < 0)) = true := by
    rw [h1.sign, h2.sign]
    rcases sign_cases x with ⟨a, b⟩ | ⟨a, b⟩ | ⟨a, b⟩ <;> rw [b] <;> simp <;> omega
  clear h1 h2
  go_enter Tryz.func68, Tryz.ntmps68
  go_wp2_with fail
  refine (HI.out _ (Ext.alloc _ _)).mono ?_
  rintro e w' ⟨rfl, hx⟩
  go_wp2_with fail
  go_ret
  exact ⟨rfl, (Ext.alloc _ _).trans hx⟩

theorem dlz_add (x y : Int) : dl (x + y).natAbs ≤ max (dl x.natAbs) (dl y.natAbs) + 1 :=
  Nat.le_trans (dl_mono (show (x + y).natAbs ≤ x.natAbs + y.natAbs by omega)) (dl_add _ _)
theorem dlz_mul (x y : Int) : dl (x * y).natAbs ≤ dl x.natAbs + dl y.natAbs := by rw [Int.natAbs_mul]; exact dl_mul _ _
theorem cmp_is {w : World} {s1 s2 : Bool} {A1 A2 : Option Addr} {c1 c2 L1 L2 : Nat} {x y k : Int} (h1 : ZV w s1 A1 c1 L1 x) (h2 : ZV w s2 A2 c2 L2 y) (e : cmpZ x y = k) :
    Calls Tryz.prog 91 #[.agg #[.bool s1, .slice A1 L1 c1], .agg #[.bool s2, .slice A2 L2 c2]] w fun e w' => e = .returned (.int .i64 k) ∧ Ext w w' := by
  subst e
  exact cmp_z h1 h2
theorem sign_is {w : World} {s1 : Bool} {A1 : Option Addr} {c1 L1 : Nat} {x k : Int} (h1 : ZV w s1 A1 c1 L1 x) (e : x.sign = k) :
    Calls Tryz.prog 76 #[.agg #[.bool s1, .slice A1 L1 c1]] w fun e w' => e = .returned (.int .i64 k) ∧ Ext w w' := by
  subst e
  exact sign_z h1
end Go.Proofs.YtehhkeenjlpikaaGreat
