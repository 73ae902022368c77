/- Arguments that are integers, opened; nil digits have no room. -/
import Derived.Test.YtcccabgeoaidjaaOpenZ
namespace Go.Proofs.Ytcccabgeoaidjaa
open Go.ChangeShapes Go.WideShapes Go.ChangeAt Go.RowKit Go.Joins
/-- The digits of a field. -/
theorem nz_of_trod {H : Type} {enc : TypeId × Value → H} {W : World} {n : Nat} {v : Value} {y : DataW H × List MemPlace} (hf : DataW.trod enc Try.prog W 0 (fun _ => true) true n 23 [v] = some y) :
    ∃ A c ds, v = .slice A ds.length c ∧ NR W A c ds ∧ (A = none → c = 0) := by
  rcases open_ints Try.underlying23 Try.underlying59 (by kernel_rfl) hf with ⟨hcs, _⟩ | ⟨x, l, c, zs, hcs, _, hl, hm, hz, _, hcell, hwz⟩
  · simp at hcs
    subst hcs
    exact ⟨none, 0, [], rfl, ⟨Rd.nil _ _ _, valid_nil _, Nat.le_refl _, by omega⟩, fun _ => rfl⟩
  · simp at hcs
    subst hcs
    obtain ⟨ds, rfl, hn⟩ := nr_of_cells hl hm (by simpa using hz) hcell hwz
    exact ⟨_, _, ds, rfl, hn, fun h => by cases h⟩
section
variable {H : Type} {enc : TypeId × Value → H} {W : World} {base : Nat} {v : Value} {d : DataW H} {p : List MemPlace}
set_option maxRecDepth 100000 in
theorem open_Zz (hv : Value.okWide Try.prog W .any base 25 v) (h : DataW.Trod enc Try.prog W 0 (fun _ => true) true 25 v d p) :
    ∃ s A c ds, v = .agg #[.bool s, .slice A ds.length c] ∧ NR W A c ds ∧ (A = none → c = 0) := by
  obtain ⟨c0, c1, y0, y1, m, rfl, _, _, hy0, hy1⟩ := open_agg2 Try.underlying25 (by kernel_rfl) cells_Z hv h
  obtain ⟨b, e0, _⟩ := DataW.trod_bool Try.underlying4 hy0
  obtain ⟨A, c, ds, e1, hn⟩ := nz_of_trod hy1
  simp at e0
  exact ⟨b, A, c, ds, by rw [e0, e1], hn⟩
end
end Go.Proofs.Ytcccabgeoaidjaa
