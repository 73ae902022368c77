/- The contracts of natural.Shl and Shr over slices of any length with a value, for every int. -/
import Derived.Test.YtcccabgeoaidjaaNatE
import Derived.Test.YtcccabgeoaidjaaNatV
namespace Go.Proofs.Ytcccabgeoaidjaa
open Go.RowKit

theorem RetN.nil {w : World} {e : Ending} {w' : World} (h : e = .returned (.slice none 0 0) ∧ w = w') : RetN w 0 e w' := by
  obtain ⟨rfl, rfl⟩ := h
  exact ⟨none, 0, rfl, Own.none_ _ _ _ _, Ext.refl _⟩
theorem shl_v {w : World} {A : Option Addr} {c L a m : Nat} {n : Int} (h : NV w A c L a) (hs : dl a ≤ 17592186044416) (hn : n ≤ 16777216) (hm : m = n.toNat) :
    Calls Try.prog 48 #[.slice A L c, .int .i64 n] w (RetN w (a * 2 ^ m)) := by
  obtain ⟨ds, rfl, rfl, h3⟩ := h
  rcases Int.lt_or_le n 0 with h0 | h0
  · exact shl_neg h3 hs (by omega) h0
  · obtain ⟨k, rfl⟩ : ∃ k : Nat, n = k := ⟨n.toNat, by omega⟩
    obtain rfl : m = k := by omega
    exact shl_nat h3 hs (by omega)
end Go.Proofs.Ytcccabgeoaidjaa
