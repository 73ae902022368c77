/- The opener of a slice of digits which says that nil has no room. -/
import Derived.Test.YtjefndkhonpalaaOpen
namespace Go.Proofs.Ytjefndkhonpalaa
open Go.ChangeShapes Go.WideShapes Go.ChangeAt Go.RowKit
section
variable {H : Type} {enc : TypeId × Value → H} {W : World} {base : Nat} {v : Value} {d : DataW H} {p : List MemPlace}
set_option maxRecDepth 100000 in
theorem open_natz (hv : Value.okWide Try.prog W .any base 22 v) (h : DataW.Trod enc Try.prog W 0 (fun _ => true) true 22 v d p) :
    ∃ A c ds, v = .slice A ds.length c ∧ NR W A c ds ∧ (A = none → c = 0) := by
  obtain ⟨a0, len, cap, rfl⟩ := okWide_slice Try.underlying22 hv
  obtain ⟨fuel, hf⟩ := h
  rcases open_ints Try.underlying22 Try.underlying39 (by kernel_rfl) hf with ⟨hcs, _⟩ | ⟨x, l, c, zs, hcs, _, hl, hm, hz, _, hcell, hwz⟩
  · simp [Value.cells] at hcs
    obtain ⟨rfl, rfl, rfl⟩ := hcs
    exact ⟨none, 0, [], rfl, ⟨Rd.nil _ _ _, valid_nil _, Nat.le_refl _, by omega⟩, fun _ => rfl⟩
  · simp [Value.cells] at hcs
    obtain ⟨rfl, rfl, rfl⟩ := hcs
    obtain ⟨ds, rfl, hn⟩ := nr_of_cells hl hm (by simpa using hz) hcell hwz
    exact ⟨_, _, ds, rfl, hn, fun h => by cases h⟩

end
end Go.Proofs.Ytjefndkhonpalaa
