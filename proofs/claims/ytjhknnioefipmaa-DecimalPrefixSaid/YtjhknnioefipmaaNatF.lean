/- The contracts of natural.Shl and Shr over slices of any length with a value, for every int. -/
import Derived.Test.YtjhknnioefipmaaNatE
import Derived.Test.YtjhknnioefipmaaNatV
namespace Go.Proofs.Ytjhknnioefipmaa
open Go.RowKit

theorem RetN.nil {w : World} {e : Ending} {w' : World} (h : e = .returned (.slice none 0 0) ∧ w = w') : RetN w 0 e w' := by
  obtain ⟨rfl, rfl⟩ := h
  exact ⟨none, 0, rfl, Own.none_ _ _ _ _, Ext.refl _⟩
end Go.Proofs.Ytjhknnioefipmaa
