/- The walk of IntegerLists. -/
import Derived.Test.YtcccabgeoaidjaaListB
namespace Go.Proofs.Ytcccabgeoaidjaa
open Go.RowKit
set_option maxRecDepth 100000 in
theorem integerLists_walk {w : World} {A0 : Option Addr} {c n : Nat} {xs : List Int} (hn : n = xs.length) (hb : n ≤ 9223372036854775807) (h : ZL w A0 xs) :
    Calls Try.prog 9 #[.slice A0 n c] w fun e w' => e = .returned (.bool true) ∧ Ext w w' := by
  by_cases h12 : n ≤ 12
  · exact integerLists_main h hn h12
  · have h13 : (12 : Int) < (n : Int) := by omega
    clear hn h h12
    go_enter Try.func9, Try.ntmps9
    go_wp2_with fail
    refine (lawake_z _).mono ?_
    rintro e w1 ⟨rfl, x1⟩
    go_wp2_with fail
    refine (lawake_z _).mono ?_
    rintro e w2 ⟨rfl, x2⟩
    go_wp2_with fail
    go_ret
    exact ⟨rfl, x1.trans x2⟩
end Go.Proofs.Ytcccabgeoaidjaa
